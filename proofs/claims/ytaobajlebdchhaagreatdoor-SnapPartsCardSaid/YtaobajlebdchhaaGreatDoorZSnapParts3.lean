/- What the law 'SnapParts' needs of walks and plain Lean, part 3: nothing is assumed beyond the texts that it imports. -/
import Derived.Deep.Draws
import Derived.DeepKeys4
import Derived.Ground.Names2Prog
import Derived.Ground.SlsfProg
import Derived.KernelRfl
import Derived.Lib.Bytealg
import Derived.Shelf.SlGeneric
import Derived.Shelf.SlSortCmp.NoneTotal
import Derived.Shelf.Strings.SlTrimAscii
import Derived.Sort.Grow
import Derived.Sort.KeysCollected
import Derived.Sort.Walk0
import Derived.Test.YtaobajlebdchhaaGreatDoorProg
import Derived.Test.YtaobajlebdchhaaGreatDoorZSnapParts1
import Derived.Test.YtaobajlebdchhaaGreatDoorZSnapParts2
set_option linter.unusedVariables false
set_option linter.unusedSimpArgs false
theorem jS:type_of% @Go.K.Kp.wT:=@Go.K.Kp.wT
namespace Go.K
open Go.Proofs
set_option maxRecDepth 10000
def mO:Nat->List (List UInt8)->Int
 |_,[]=>0
 |i,w::ws=>if 30<w.length then 3 else if 500<=i then 7 else mO (i+1) ws
theorem KQ {i k:Nat} {ws:List (List UInt8)} {x:List UInt8} (h:ws[k]? =some x):mO i (ws.drop k)=if 30<x.length then 3 else if 500<=i then 7 else mO (i+1) (ws.drop (k+1)):=by
 have eZ:=(al.1 h).1;rw[j0 eZ,(al.1 h).2];rfl
theorem eJ {M:aE} {w:World} {x:List UInt8} {v:Value} (h:RT.str.V M w x v):v= .string ⟨x.toArray⟩:=(mj.1 h).1
theorem MK {M:aE} {l:List UInt8} (w0:World) (hM:Lt M w0) (hl:l.length<=900000):
  Spec Tryz.prog 138 #[.string ⟨l.toArray⟩] w0 (λv w=>(∃u,v= .tuple #[u,.int .i64 (mO 0 (words l))]/\(mO 0 (words l)=0->∃a cap,u= .slice a (words l).length cap))/\Step M w0 M w ar):=by
 have iz:=hM;refine aS (args:=[_]) (fn:=Tryz.f138) Tryz.func138 G (n:=30) Tryz.ntmps138 ?_;have S:Step M w0 M w0 ar:=aV;refine T.aO (aB G G (Rg.aZ G G (T.aO (Rg.aZ G G (aI (T.aO ?_))))));refine ab G G ?_;refine aJ G G YA (Av _ hM hl) (λv1 w1 hc=>?_);obtain⟨hv,s1⟩:=hc;replace hM:=s1.lt hM;have:=S.size;replace S:=S.av s1;refine bB aQ G hv G (ab G G (ad (aT ?_)));refine cR (σ:=Nat×Value) (λq=>[(8,v1),(4,q.2),(9,.int .i64 ((words l).length:Int)),(10,.int .i64 (q.1:Int))]) (λq w=>(∃M' xs,Lt M' w/\Step M w0 M' w ar/\Own (RT.pair RT.str (RT.int .i64)) 218 M' w w0.heap.size q.2 xs/\xs.length=q.1/\(RT.str.sl).V M' w (words l) v1)/\mO 0 (words l)=mO q.1 ((words l).drop q.1)/\q.1<=(words l).length/\q.1<=500) (λq=>(words l).length-q.1) (0,.slice none 0 0) a01 ?_ ?_
 ·exact⟨⟨M,[],hM,S,eE _ _ _ _ _,G,hv⟩,G,bm _,bm _⟩
 ·rintro⟨i,u⟩ w ⟨⟨M1,xs,hM,S,ho,BR,hv⟩,L9,hi,hi5⟩;dsimp only at ho BR L9 hi hi5 ⊢;refine T.aO (ck G G G (ad (aI ?_)));refine bI G (λc3=>?_) (λc3=>?_)
  ·refine aR (aI (aT (T.aO (ab G G ?_))));refine cx aQ I9 G G G hv b4 q0 (λaeh x KR hux=>?_);refine bM aG G G G G G hux b4 (λvx Ax=>?_);rw[aq]at KR;obtain rfl:=eJ Ax;have ht:=KQ (i:=i) KR;refine aB G G (Rg.aZ G G (aI (aT (T.aO (ab G G (zg aG G G (aY (v':= .int .i64 (x.length:Int)) a86 (il G G G (aB G G ?_)))))))));refine ad ?_;refine bI G (λc5=>?_) (λc5=>?_)
   ·refine T.aO (aB G G (Rg.aZ G G (aM ?_)));rw[L9,ht,if_pos q0];exact ae4
   ·refine T.aO (ab G G (gN G G G (Rg.aZ G G ?_)));refine bI G (λc7=>?_) (λc7=>?_)
    ·refine T.aO (aB G G (Rg.aZ G G (aM ?_)));rw[L9,ht,if_neg q0,if_pos q0];exact ae4
    ·refine aR (aN (ab rfl rfl (ab rfl rfl (ab rfl rfl (dp (places:=[(0,1),(1,1)]) Tryz.underlying218 Mm adu rfl ⟨_,_,rfl,rfl,_,_,rfl,rfl,rfl⟩ (out:=[_,_]) ⟨0,[_],rfl,rfl,by simp[Value.cells],1,[_],rfl,rfl,by simp[Value.cells],rfl⟩ ?_)))));refine fm (A:=(RT.pair RT.str (RT.int .i64))) (hn:=by decide) (M:=M1) Tryz.underlying154 Mm XT G G hM (fR Ax (iG (x:=(i:Int)) q0) G G G G) (.inl G) (λad0 ak6 PM B3=>?_);replace hv:=hv.le B3.le;replace Ax:=Ax.le B3.le;replace ho:=ho.bD B3;replace hM:=B3.lt hM;have:=S.size;replace S:=S.av B3;refine dA (M:=M1) (base:=w0.heap.size) Tryz.underlying154 Mm rfl rfl rfl rfl ho PM b4 a13 a13 (S.size) (λals alu aei aej rp=>?_);replace hv:=hv.le rp.le;replace Ax:=Ax.le rp.le;replace PM:=PM.le rp.le;replace hM:=rp.lt hM;have:=S.size;replace S:=S.eg rp ho (aX _);replace ho:=aej;refine Rg.aZ G G (aN (br G G G q0 (ab G G (ad ?_))));refine⟨G,(i+1,als),a01,?_,?_⟩
     ·exact⟨⟨alu,_,hM,S,ho,by simp[BR],hv⟩,by rw[L9,ht,if_neg q0,if_neg q0],by dsimp only;omega,by dsimp only;omega⟩
     ·dsimp only;omega
  ·refine cE (T.aO (ab G G (aB G G (Rg.aZ G G (aM ?_)))));have e:mO 0 (words l)=0:=by rw[L9,lI q0];rfl
   rw[e];obtain⟨a,cap,he,_⟩:=ho.isSlice;exact eS rfl rfl rfl ⟨⟨u,rfl,λ_=>⟨a,cap,by rw[he,BR];congr 1;omega⟩⟩,S.back⟩
theorem I0 {M:aE} {l:List UInt8} (w0:World) (hM:Lt M w0) (hl:l.length<=900000):
  Spec Tryz.prog 74 #[.string ⟨l.toArray⟩] w0 (λv w=>(∃u,v= .tuple #[u,.int .i64 (mO 0 (words l))]/\(mO 0 (words l)=0->∃a cap,u= .slice a (words l).length cap))/\Step M w0 M w ar):=by
 have iz:=hM;refine aS (args:=[_]) (fn:=Tryz.f74) Tryz.func74 G (n:=33) Tryz.ntmps74 ?_;have S:Step M w0 M w0 ar:=aV;refine T.aO (aB G G (Rg.aZ G G (T.aO (ab G G ?_))));refine aJ G G adw (yz _ hM hl) (λv1 w1 hc=>?_);obtain⟨hv,s1⟩:=hc;replace hM:=s1.lt hM;have:=S.size;replace S:=S.av s1;refine Rg.aZ G G (T.aO (Rg.aZ G G (aI (T.aO (Rg.aZ G G (aT ?_))))));refine cR (σ:=Nat×Value) (λq=>[(4,v1),(5,q.2),(6,.int .i64 (q.1:Int))]) (λq w=>(∃M' xs,Lt M' w/\Step M w0 M' w ar/\Own (RT.pair RT.str (RT.int .i64)) 218 M' w w0.heap.size q.2 xs/\xs.length=q.1/\(RT.str.sl).V M' w (words l) v1)/\mO 0 (words l)=mO q.1 ((words l).drop q.1)/\q.1<=(words l).length/\q.1<=500) (λq=>(words l).length-q.1) (0,.slice none 0 0) a07 ?_ ?_
 ·exact⟨⟨M,[],hM,S,eE _ _ _ _ _,G,hv⟩,G,bm _,bm _⟩
 ·rintro⟨i,u⟩ w ⟨⟨M1,xs,hM,S,ho,BR,hv⟩,L9,hi,hi5⟩;dsimp only at ho BR L9 hi hi5 ⊢;refine aI (T.aO (ab G G (ab G G (bB aQ G hv G (ck G G G (ad ?_))))));refine bI G (λc4=>?_) (λc4=>?_)
  ·refine aR (aI (aT (aI (T.aO (ab G G (ab G G ?_))))));refine cx aQ I9 G G G hv b4 q0 (λaeb x KR hux=>?_);refine bM aG G G G G G hux b4 (λvx Ax=>?_);rw[aq]at KR;obtain rfl:=eJ Ax;have ht:=KQ (i:=i) KR;refine zg aG G G (aY (v':= .int .i64 (x.length:Int)) a86 (il G G G (ad ?_)));refine bI G (λc6=>?_) (λc6=>?_)
   ·refine T.aO (aB G G (Rg.aZ G G (aM ?_)));rw[L9,ht,if_pos q0];exact ae4
   ·refine aR (aI (T.aO (ab G G (eh G G G (ad ?_)))));refine bI G (λc8=>?_) (λc8=>?_)
    ·refine T.aO (aB G G (Rg.aZ G G (aM ?_)));rw[L9,ht,if_neg q0,if_pos q0];exact ae4
    ·refine aR (aN (ab G G (ab G G (ab G G ?_))));refine cx aQ I9 G G G hv b4 q0 (λaec y ML huy=>?_);refine bM aG G G G G G huy b4 (λvy hvy=>?_);rw[aq]at ML;obtain rfl:=eJ hvy;obtain rfl:x=y:=by rw[KR]at ML;exact aF ML
     refine ab rfl rfl (dp (places:=[(0,1),(1,1)]) Tryz.underlying218 Mm adu rfl ⟨_,_,rfl,rfl,_,_,rfl,rfl,rfl⟩ (out:=[_,_]) ⟨0,[_],rfl,rfl,by simp[Value.cells],1,[_],rfl,rfl,by simp[Value.cells],rfl⟩ ?_);refine fm (A:=(RT.pair RT.str (RT.int .i64))) (hn:=by decide) (M:=M1) Tryz.underlying154 Mm XT G G hM (fR hvy (iG (x:=(i:Int)) q0) G G G G) (.inl G) (λWN aee I1 qc=>?_);replace hv:=hv.le qc.le;replace Ax:=Ax.le qc.le;replace hvy:=hvy.le qc.le;replace ho:=ho.bD qc;replace hM:=qc.lt hM;have:=S.size;replace S:=S.av qc;refine dA (M:=M1) (base:=w0.heap.size) Tryz.underlying154 Mm rfl rfl rfl rfl ho I1 b4 a13 a13 (S.size) (λaek ael KS Zj hU=>?_);replace hv:=hv.le hU.le;replace Ax:=Ax.le hU.le;replace hvy:=hvy.le hU.le;replace I1:=I1.le hU.le;replace hM:=hU.lt hM;have:=S.size;replace S:=S.eg hU ho (aX _);replace ho:=Zj;refine Rg.aZ G G (aN (ab G G (br G G G q0 (Rg.aZ G G ?_))));refine⟨G,(i+1,aek),a07,?_,?_⟩
     ·exact⟨⟨ael,_,hM,S,ho,by simp[BR],hv⟩,by rw[L9,ht,if_neg q0,if_neg q0],by dsimp only;omega,by dsimp only;omega⟩
     ·dsimp only;omega
  ·refine cE (T.aO (ab G G (aB G G (Rg.aZ G G (aM ?_)))));have e:mO 0 (words l)=0:=by rw[L9,lI q0];rfl
   rw[e];obtain⟨a,cap,he,_⟩:=ho.isSlice;exact eS rfl rfl rfl ⟨⟨u,rfl,λ_=>⟨a,cap,by rw[he,BR];congr 1;omega⟩⟩,S.back⟩
abbrev Fd:=List UInt8×List UInt8
abbrev Dc:=Int×List Fd
abbrev En:=Dc×Int
abbrev RT.fd:RT Fd:=RT.pair RT.str RT.str
abbrev RT.dc:RT Dc:=RT.pair (RT.int .i64) (RT.fd.sl)
abbrev RT.en:RT En:=RT.pair RT.dc (RT.int .i64)
theorem MM:Part RT.fd RT.str (λp=>p.1) 0:=kO _ _
theorem Zk:Part RT.fd RT.str (λp=>p.2) 1:=fH _ _
theorem dc0:Part RT.dc (RT.int .i64) (λp=>p.1) 0:=kO _ _
theorem H8:Part RT.dc (RT.fd.sl) (λp=>p.2) 1:=fH _ _
theorem WO:Part RT.en RT.dc (λp=>p.1) 0:=kO _ _
theorem Zl:Part RT.en (RT.int .i64) (λp=>p.2) 2:=fH _ _
theorem PN {M:aE} {w:World} {p:Dc} {v:Value} (h:RT.dc.V M w p v):∃u,v= .agg #[.int .i64 p.1,u]:=by
 obtain⟨vs,⟨va,vb,rfl,⟨rfl,_⟩,hb⟩,rfl⟩:=h;have:=(RT.fd.sl XT).len hb
 match vb,this with
 |[u],_=>exact⟨u,rfl⟩
theorem WQ {M:aE} {w:World} {p:Dc} {u:Value} {s:Int} (h:RT.dc.V M w p (.agg #[.int .i64 p.1,u])) (hs: -9223372036854775808<=s/\s<=9223372036854775807):RT.en.V M w (p,s) (.agg [.int .i64 p.1,u,.int .i64 s].toArray):=by
 obtain⟨vs,h1,h2⟩:=h
 have h3:vs=[.int .i64 p.1,u]:=by
  have:Value.agg #[.int .i64 p.1,u]= .agg vs.toArray:=h2;injection this with this
  simpa using(congrArg Array.toList this).symm
 subst h3;exact⟨_,⟨[.int .i64 p.1,u],[.int .i64 s],G,h1,G,hs.1,hs.2⟩,G⟩
theorem Own.WR {α:Type} (A:RT α) (e:TypeId) (base:Nat) {M:aE} {w:World} (h:Lt M w):Own A e M w base (.slice none 0 0) []:=eE _ _ _ _ _
section
variable {P:Program} {r:Option Nat} {n:Nat} {L:Sl} {ds:List Deferred} {w:World} {K:Kt} {ops:Array Oper} {rest:List Oper} {d:Nat} {x:Operand} {ty:TypeId} {pos:String} {af:Array Edge}
theorem Rg.iI {α:Type} {A:RT α} {e:TypeId} {v:Value} {a:α} {M:aE} (hx:ev L x=some v) (hd:Nat.blt d n=true) (hM:Lt M w) (hv:A.V M w a v) (hg:A.agg=true)
  (k:∀u w',cG A M w' u a->Step M w M w' ar->w.heap.size<=w'.heap.size->Rg P r n ops rest ((d,u)::L) ds w' K):
  Rg P r n ops ({dst:=some d,op:= .box e x,type:=ty,pos,after:=af,guard:=none}::rest) L ds w K:=by
 refine iP M hx hd (λb w' h1 h2 hb s=>?_);obtain⟨vs,h3,h4⟩:=hv;have hc:v.cells=vs.toArray:=by subst h4;simp[RT.val,hg,Value.cells]
 rw[hc]at hb;refine k _ w' ⟨b,0,vs,G,λhm=>?_,A.le s.back.le h3,λj u hj=>?_⟩ s.back s.size
 ·have:=hM b hm;omega
 ·rw[Nat.zero_add];exact im hb a98
end
end Go.K
namespace Go.Proofs
open Go.Shelf
def Tryz.F6:Go.Shelf.Ren:=⟨fun|160=>183|232=>246|231=>245|227=>247|234=>249|233=>248|236=>251|235=>250|228=>283|271=>286|151=>285|197=>284|120=>311|152=>310|260=>309|137=>319|119=>308|224=>320|225=>321|217=>323|266=>324|n=>n,fun|9=>9|4=>4|3=>3|5=>5|117=>340|116=>339|0=>0|124=>343|21=>21|105=>373|46=>262|119=>401|139=>404|138=>403|n=>n,fun|3=>2|4=>3|n=>n⟩
theorem Tryz.US:Go.Proofs.Lays.n160 Tryz.prog Tryz.F6:={
 mixed:=by kernel_rfl
 f119:=Tryz.func308.trans a04
 f120:=Tryz.func311.trans a04
 f137:=Tryz.func319.trans a04
 f151:=Tryz.func285.trans a04
 f152:=Tryz.func310.trans a04
 f160:=Tryz.func183.trans a04
 f197:=Tryz.func284.trans a04
 f217:=Tryz.func323.trans a04
 f224:=Tryz.func320.trans a04
 f225:=Tryz.func321.trans a04
 f227:=Tryz.func247.trans a04
 f228:=Tryz.func283.trans a04
 f231:=Tryz.func245.trans a04
 f232:=Tryz.func246.trans a04
 f233:=Tryz.func248.trans a04
 f234:=Tryz.func249.trans a04
 f235:=Tryz.func250.trans a04
 f236:=Tryz.func251.trans a04
 f260:=Tryz.func309.trans a04
 f266:=Tryz.func324.trans a04
 f271:=Tryz.func286.trans a04
 t0:=BL
 a0:=Tryz.isAgg0
 z0:=Tryz.sizeOf0
 v0:=Tryz.zeroValue0
 t3:=aj
 a3:=Tryz.isAgg3
 z3:=Tryz.sizeOf3
 v3:=Tryz.zeroValue3
 t4:=qM
 a4:=Tryz.isAgg4
 z4:=Tryz.sizeOf4
 v4:=Tryz.zeroValue4
 t5:=cZ
 a5:=Tryz.isAgg5
 z5:=Tryz.sizeOf5
 v5:=Tryz.zeroValue5
 t9:=aG
 a9:=Tryz.isAgg9
 z9:=BM
 v9:=od
 t21:=Tryz.underlying21
 a21:=Tryz.isAgg21
 z21:=Tryz.sizeOf21
 v21:=Tryz.zeroValue21
 t46:=Tryz.underlying262
 a46:=Tryz.isAgg262
 z46:=Tryz.sizeOf262
 v46:=Tryz.zeroValue262
 t105:=Tryz.underlying373
 a105:=Tryz.isAgg373
 z105:=Tryz.sizeOf373
 v105:=Tryz.zeroValue373
 t116:=Tryz.underlying339
 a116:=Tryz.isAgg339
 z116:=Tryz.sizeOf339
 t117:=Tryz.underlying340
 a117:=Tryz.isAgg340
 z117:=Tryz.sizeOf340
 v117:=Tryz.zeroValue340
 t119:=Tryz.underlying401
 a119:=Tryz.isAgg401
 z119:=Tryz.sizeOf401
 t124:=Tryz.underlying343
 a124:=Tryz.isAgg343
 z124:=Tryz.sizeOf343
 v124:=Tryz.zeroValue343
 t138:=Tryz.underlying403
 a138:=Tryz.isAgg403
 z138:=Tryz.sizeOf403
 v138:=Tryz.zeroValue403
 t139:=Tryz.underlying404
 a139:=Tryz.isAgg404
 z139:=Tryz.sizeOf404
 v139:=Tryz.zeroValue404
 g3:=by kernel_rfl
 g4:=by kernel_rfl}
end Go.Proofs
namespace Go.K
open Go.Proofs
set_option maxRecDepth 10000
open Go.RowKit Go.Shelf
def l1:List UInt8:=[97,98,99,100,101,102,103,104,105,106,107,108,109,110,111,112,113,114,115,116,117,118,119,120,121,122]
def iJ (b:UInt8):Bool:=decide (97<=b.toNat/\b.toNat<=122)
def fe (s:List UInt8):Bool:=decide (1<=s.length/\s.length<=12)&&s.all iJ
theorem F7 (b:UInt8):l1.contains b=iJ b:=by
 have key:∀n:Fin 256,l1.contains (UInt8.ofNat n)=iJ (UInt8.ofNat n):=by decide
 have:=key ⟨b.toNat,UInt8.toNat_lt b⟩;simpa using this
theorem drop_nil {α:Type} (p:α->Bool):∀l:List α,l.dropWhile p=[]↔∀x∈l,p x=true
 |[]=>by simp
 |x::l=>by
  rw[List.dropWhile_cons];by_cases h:p x=true
  ·rw[if_pos h,drop_nil p l];simp[h]
  ·rw[if_neg h];simp[h]
theorem Ay (s:List UInt8):Lib.trimS s l1=[]↔s.all iJ=true:=by
 have e:(λb=>l1.contains b)=iJ:=funext F7;unfold Lib.trimS Lib.trimLeftS Lib.trimRightS;rw[e,drop_nil,eA];constructor
 ·intro h
  have h2:s.reverse.dropWhile iJ=[]:=by
   cases hd:s.reverse.dropWhile iJ with
   |nil=>rfl
   |cons x r=>
    have h3:=h x (by rw[hd];simp);have h4:=List.head?_dropWhile_not iJ s.reverse;rw[hd]at h4;simp[h3]at h4
  intro x hx;exact(drop_nil _ _).1 h2 x (List.mem_reverse.2 hx)
 ·intro h x hx;rw[(drop_nil iJ s.reverse).2 (λy hy=>h y (List.mem_reverse.1 hy))]at hx
  cases hx
theorem MN (s:List UInt8) (hs:s.length<=140737488355328) (w:World):Spec Tryz.prog 183 #[.string ⟨s.toArray⟩,.string ⟨l1.toArray⟩] w (λv w'=>v= .string ⟨(Lib.trimS s l1).toArray⟩/\∀M,Step M w M w' ar):=
 (Any.strings_Trim_ascii Tryz.US Tryz.zeroValue339 (by kernel_rfl) ⟨s.toArray⟩ ⟨l1.toArray⟩ w (by simp[ByteArray.size];omega) XT (λj b hj=>by
  have hm:b∈l1:=ax hj;have:=F7 b;rw[fJ.2 hm]at this;have h2:97<=b.toNat/\b.toNat<=122:=by simpa[iJ]using this.symm
  omega)).mono λe w' ⟨h1,h2⟩=>⟨_,h1,rfl,λM=> .DN h2 M⟩
theorem xB (s:List UInt8) (hs:s.length<=140737488355328) (w0:World):
  Spec Tryz.prog 139 #[.string ⟨s.toArray⟩] w0 (λv w=>v= .bool (fe s)/\∀M,Step M w0 M w ar):=by
 refine aS (args:=[_]) (fn:=Tryz.f139) Tryz.func139 G (n:=15) Tryz.ntmps139 (T.aO (Rg.aZ G G (T.aO (ab G G (Rg.OC (p:=s) (q:=[]) G G G (ab G G ?_))))));refine aW (g:=5) G (λgT=>?_) (λgT=>?_)
 ·refine ah G G (ab G G (ah G G (zg aG G G (aY (v':= .int .i64 (s.length:Int)) a86 (ah G G (gF G G G (a8 G G G (ab G G ?_))))))));refine aW (g:=10) G (λII=>?_) (λII=>?_)
  ·refine ah G G (ab G G (ah G G ?_));refine aJ G G ake (MN s hs _) (λr w9 hc=>?_);obtain⟨rfl,s9⟩:=hc;refine ah G G (Rg.zC (p:=Lib.trimS s l1) (q:=[]) G G G (a8 G G G (Rg.aZ G G (aM ?_))))
   first
   |exact aP rfl rfl ⟨by rw[fe,decide_eq_true (p:=1<=s.length/\s.length<=12) ⟨gv.2 gT,by omega⟩,cT];exact congrArg Value.bool (by rw[jh,decide_eq_true_eq];exact Ay s),s9⟩
   |exact ac4
   |(have Zm:s=[]:=Classical.not_not.1 gT
     subst Zm;exact aP G G ⟨G,λM=>aV⟩)
  ·refine ak G G G G (ak G G G G (ak G G G G (aD G G G (Rg.aZ G G (aM ?_)))))
   first
   |exact aP rfl rfl ⟨by rw[fe,decide_eq_true (p:=1<=s.length/\s.length<=12) ⟨gv.2 gT,by omega⟩,cT];exact congrArg Value.bool (by rw[jh,decide_eq_true_eq];exact Ay s),s9⟩
   |exact ac4
   |(have Zm:s=[]:=Classical.not_not.1 gT
     subst Zm;exact aP G G ⟨G,λM=>aV⟩)
 ·refine ak G G G G (ak G G G G (ak G G G G (aD G G G (ab G G (ak G G G G (ak G G G G (ak G G G G (aD G G G (Rg.aZ G G (aM ?_))))))))))
  first
  |exact aP rfl rfl ⟨by rw[fe,decide_eq_true (p:=1<=s.length/\s.length<=12) ⟨gv.2 gT,by omega⟩,cT];exact congrArg Value.bool (by rw[jh,decide_eq_true_eq];exact Ay s),s9⟩
  |exact ac4
  |(have Zm:s=[]:=Classical.not_not.1 gT
    subst Zm;exact aP G G ⟨G,λM=>aV⟩)
theorem PO {s:List UInt8} (h:∀(k:Nat) c,s[k]? =some c->iJ c=true):s.all iJ=true:=eA.2 λc hc=>by
 obtain⟨k,hk⟩:=bG.1 hc;exact h k c hk
theorem vD {s:List UInt8} {i:Nat} (h:i<s.length):s[i]? =some (s.getD i 0):=by rw[bY,an h];rfl
theorem j9 {M:aE} {w:World} {p:Fd} {v:Value} (h:RT.fd.V M w p v):v= .agg #[.string ⟨p.1.toArray⟩,.string ⟨p.2.toArray⟩]:=by
 obtain⟨vs,⟨va,vb,rfl,⟨rfl,_⟩,⟨rfl,_⟩⟩,rfl⟩:=h;rfl
theorem I2 {M:aE} {w:World} {p:Fd} {v:Value} (h:RT.fd.V M w p v):p.1.length<=140737488355328/\p.2.length<=140737488355328:=by
 obtain⟨vs,⟨va,vb,rfl,⟨rfl,h1⟩,⟨rfl,h2⟩⟩,_⟩:=h;exact⟨h1,h2⟩
def B4:List Fd->List Fd->Nat->Int
 |_,[],n=>if 500<n then 7 else 0
 |seen,f::fs,n=>if fe f.1=false then 4 else if(seen.any λg=>decide (g.1=f.1))=true then 5 else if mO 0 (words f.2)≠0 then mO 0 (words f.2)else B4 (seen++[f]) fs (n+(words f.2).length)
def nt (d:Dc):Int:=if 8<d.2.length then 7 else B4 [] d.2 0
theorem KT {fs:List Fd} {i n:Nat} {x:Fd} (h:fs[i]? =some x):B4 (fs.take i) (fs.drop i) n=if fe x.1=false then 4 else if((fs.take i).any λg=>decide (g.1=x.1))=true then 5 else if mO 0 (words x.2)≠0 then mO 0 (words x.2)else B4 (fs.take (i+1)) (fs.drop (i+1)) (n+(words x.2).length):=by
 have eZ:=(al.1 h).1;rw[j0 eZ,(al.1 h).2,bQ,h];rfl
theorem vE {fs:List Fd} {i n:Nat} (h:fs.length<=i):B4 (fs.take i) (fs.drop i) n=if 500<n then 7 else 0:=by
 rw[lI h];rfl
theorem Az (s:List UInt8) (hs:s.length<=140737488355328) (w0:World):
  Spec Tryz.prog 58 #[.string ⟨s.toArray⟩] w0 (λv w=>v= .bool (fe s)/\w=w0):=by
 refine aS (args:=[_]) (fn:=Tryz.f58) Tryz.func58 G (n:=28) Tryz.ntmps58 (T.aO (Rg.aZ G G (aI (T.aO (Rg.aZ G G (aT ?_))))));refine cR (σ:=Nat) (λi=>[(0,.string ⟨s.toArray⟩),(3,.int .i64 (i:Int))]) (λi w=>w=w0/\i<=s.length/\∀k c,k<i->s[k]? =some c->iJ c=true) (λi=>s.length-i) 0 ac2 ?_ ?_
 ·exact⟨G,bm _,λk c h=>absurd h (eL k)⟩
 ·rintro i w ⟨rfl,hi,fN⟩;refine aI (T.aO (ab G G (ab G G (zg aG G G (aY (v':= .int .i64 (s.length:Int)) a86 (ck G G G (ad ?_)))))));refine bI G (λc2=>?_) (λc2=>?_)
  ·refine aR (aI (aT (T.aO (ab G G (ab G G (Rg.KH (c:=s.getD i 0) aG G G G q0 (by rw[aq];exact vD q0) (ck G G G (ab G G ?_))))))));refine aW (g:=14) G (λalv=>?_) (λalv=>?_)
   ·refine ak G G G G (ak G G G G (ak G G G G (ak G G G G (a8 G G G (ad (lh G (T.aO (Rg.aZ G G (aM ?_)))))))))
    have hx:s.all iJ=false:=fj.2 λh=>by
     have h2:=eA.1 h _ (ax (vD (s:=s) (i:=i) q0));simp only[iJ,decide_eq_true_eq]at h2;omega
    exact aP rfl rfl ⟨by rw[fe,hx,Bool.and_false],rfl⟩
   ·refine ah G G (ab G G (ah G G (ab G G (ah G G (Rg.KH (c:=s.getD i 0) aG G G G q0 (by rw[aq];exact vD q0) (ah G G (il G G G (aD G G G (ad ?_)))))))));refine bI G (λc4=>?_) (λc4=>?_)
    ·refine T.aO (Rg.aZ G G (aM ?_))
     have hx:s.all iJ=false:=fj.2 λh=>by
      have h2:=eA.1 h _ (ax (vD (s:=s) (i:=i) q0));simp only[iJ,decide_eq_true_eq]at h2;omega
     exact aP rfl rfl ⟨by rw[fe,hx,Bool.and_false],rfl⟩
    ·refine aR (aN (ab G G (br G G G q0 (Rg.aZ G G ?_))));refine⟨G,i+1,ac2,?_,?_⟩
     ·exact⟨G,by omega,λk c h hc=>by
       rcases cL k i with h2|h2
       ·exact fN k c h2 hc
       ·obtain rfl:k=i:=by omega
        rw[vD q0]at hc;cases hc;simp only[iJ,decide_eq_true_eq];omega⟩
     ·omega
  ·refine cE (T.aO (ab G G (zg aG G G (aY (v':= .int .i64 (s.length:Int)) a86 (eh G G G (ab G G ?_))))));refine aW (g:=23) G (λqu=>?_) (λqu=>?_)
   ·refine ah G G (ab G G (ah G G (zg aG G G (aY (v':= .int .i64 (s.length:Int)) a86 (ah G G (gF G G G (a8 G G G (Rg.aZ G G (aM ?_)))))))));have ha:s.all iJ=true:=PO λk c hc=>fN k c (by have:=(al.1 hc).1;omega) hc
    first
    |exact aP rfl rfl ⟨by rw[fe,ha,kz];exact congrArg Value.bool (decide_eq_decide.2 q0),G⟩
    |exact aP rfl rfl ⟨by rw[fe,ha,kz];exact congrArg Value.bool (decide_eq_false q0).symm,G⟩
   ·refine ak G G G G (ak G G G G (ak G G G G (aD G G G (Rg.aZ G G (aM ?_)))));have ha:s.all iJ=true:=PO λk c hc=>fN k c (by have:=(al.1 hc).1;omega) hc
    first
    |exact aP rfl rfl ⟨by rw[fe,ha,kz];exact congrArg Value.bool (decide_eq_decide.2 q0),G⟩
    |exact aP rfl rfl ⟨by rw[fe,ha,kz];exact congrArg Value.bool (decide_eq_false q0).symm,G⟩
theorem MO {M:aE} {o:Fd} {v0:Value} (w0:World) (hM:Lt M w0) (hv:RT.fd.V M w0 o v0) {nm:List UInt8} {t:Value} {bf:Nat} (g:w0.heap[bf]? =some (.cells #[.string ⟨nm.toArray⟩,t] 153 (0,0))) (CV:M bf):
  Spec Tryz.prog 141 #[v0,.pointer (some ⟨bf,0,none⟩)] w0 (λv w=>v= .bool (decide (o.1=nm))/\Step M w0 M w ar):=by
 refine aS (args:=[_,_]) (fn:=Tryz.f141) Tryz.func141 G (n:=9) Tryz.ntmps141 ?_;have S:Step M w0 M w0 ar:=aV;refine T.aO ?_;refine Rg.iI (A:=RT.fd) G G hM hv G (λu0 w1 dB s0 _=>?_);have:=ae g;replace CV:=(s0.mem _ this).2 CV;replace g:=s0.ay g;replace hM:=s0.lt hM;have:=S.size;replace S:=S.av s0;refine Rg.aZ G G (T.aO ?_);refine au (M:=M) (A:=RT.fd) (B:=RT.str) cJ G G I9 XT (MM) G G XT a00 (by repeat (first|exact bN _ _|refine bp (bO a00) ?_)) (λB5 lQ=>?_);refine bM aG G G G G G lQ b4 (λv1 nu=>?_);obtain rfl:=eJ nu;refine aK (o':=0) cJ G G I9 XT G G (aA aG G G G a00 G (Rg.zC (p:=o.1) (q:=nm) G G G (Rg.aZ G G (aM ?_))));exact aP G G ⟨G,S⟩
theorem I6 {M:aE} {fs:List Fd} {v0:Value} (w0:World) (hM:Lt M w0) (hv:(RT.fd.sl).V M w0 fs v0) {nm:List UInt8} {t:Value} {bf:Nat} (g:w0.heap[bf]? =some (.cells #[.string ⟨nm.toArray⟩,t] 153 (0,0))) (CV:M bf):
  Spec Tryz.prog 184 #[v0,.func (.func 141) #[] #[.pointer (some ⟨bf,0,none⟩)]] w0 (λv w=>(∃k:Int,v= .int .i64 k/\(0<=k↔(fs.any λg=>decide (g.1=nm))=true)/\ -1<=k/\k<=9223372036854775807)/\Step M w0 M w ar):=by
 have Ik:=dW hv;refine aS (args:=[_,_]) (fn:=Tryz.f184) Tryz.func184 G (n:=19) Tryz.ntmps184 ?_;have S:Step M w0 M w0 ar:=aV;refine T.aO (Rg.aZ G G (aI (T.aO (ab G G (bB bu G hv G (ab G G (ad (aT ?_))))))));refine cR (σ:=Nat) (λi=>[(0,v0),(1,.func (.func 141) #[] #[.pointer (some ⟨bf,0,none⟩)]),(6,v0),(7,.int .i64 (fs.length:Int)),(8,.int .i64 (i:Int))]) (λi w=>Lt M w/\Step M w0 M w ar/\(w.heap[bf]? =some (.cells #[.string ⟨nm.toArray⟩,t] 153 (0,0)))/\(RT.fd.sl).V M w fs v0/\i<=fs.length/\∀k o,k<i->fs[k]? =some o->o.1≠nm) (λi=>fs.length-i) 0 a34 ?_ ?_
 ·exact⟨hM,S,g,hv,bm _,λk c h=>absurd h (eL k)⟩
 ·rintro i w ⟨hM,S,g,hv,hi,fN⟩;refine T.aO (ck G G G (ad (aI ?_)));refine bI G (λc2=>?_) (λc2=>?_)
  ·refine aR (aI (aT (T.aO (ab G G (Rg.aZ G G (T.aO (ab G G (ab G G ?_))))))));refine ab G G ?_;refine cx bu ko G G G hv b4 q0 (λu4 o E4 KL=>?_);refine bZ (A:=RT.fd) cJ G ko XT G G G KL b4 (λv4 qb=>?_);rw[aq]at E4;refine ng (first:=[]) (captured:=[.pointer (some ⟨bf,0,none⟩)]) G G G aj6 (MO _ hM qb g CV) (λr5 w5 hc=>?_);obtain⟨rfl,s5⟩:=hc;have:=ae g;replace CV:=(s5.mem _ this).2 CV;replace g:=s5.ay g;replace hv:=hv.le s5.le;replace hM:=s5.lt hM;have:=S.size;replace S:=S.av s5;refine ad ?_;refine bI G (λc4=>?_) (λc4=>?_)
   ·refine T.aO (ab G G (Rg.aZ G G (aM ?_)));exact aP rfl rfl ⟨⟨_,rfl,⟨λ_=>ou.2 ⟨o,ax E4,by simpa using a00⟩,λ_=>by omega⟩,by omega,by omega⟩,S.back⟩
   ·refine aR (aN (br G G G q0 (ab G G (ad ?_))));refine⟨G,i+1,a34,?_,?_⟩
    ·exact⟨hM,S,g,hv,by omega,λk o' h hc=>by
      rcases cL k i with h2|h2
      ·exact fN k o' h2 hc
      ·obtain rfl:k=i:=by omega
       rw[E4]at hc;cases hc;assumption⟩
    ·omega
  ·refine cE (T.aO (Rg.aZ G G (aM ?_)))
   exact aP G G ⟨⟨-1,G,⟨λh=>by omega,λh=>by
    obtain⟨o,ho,he⟩:=ou.1 h;obtain⟨k,hk⟩:=bG.1 ho;exact absurd (by simpa using he) (fN k o (by have:=(al.1 hk).1;omega) hk)⟩,by omega,by omega⟩,S.back⟩
theorem F8 {M:aE} {fs:List Fd} {v0:Value} (w0:World) (hM:Lt M w0) (hv:(RT.fd.sl).V M w0 fs v0) {nm:List UInt8} {t:Value} {bf:Nat} (g:w0.heap[bf]? =some (.cells #[.string ⟨nm.toArray⟩,t] 153 (0,0))) (CV:M bf):
  Spec Tryz.prog 140 #[v0,.func (.func 141) #[] #[.pointer (some ⟨bf,0,none⟩)]] w0 (λv w=>v= .bool (fs.any λg=>decide (g.1=nm))/\Step M w0 M w ar):=by
 refine aS (args:=[_,_]) (fn:=Tryz.f140) Tryz.func140 G (n:=9) Tryz.ntmps140 ?_;have S:Step M w0 M w0 ar:=aV;refine T.aO (Rg.aZ G G (T.aO (ab G G (ab G G ?_))));refine aJ G G akf (I6 _ hM hv g CV) (λr1 w1 hc=>?_);obtain⟨⟨k,rfl,hk,_⟩,s1⟩:=hc;have:=ae g;replace CV:=(s1.mem _ this).2 CV;replace g:=s1.ay g;replace hv:=hv.le s1.le;replace hM:=s1.lt hM;have:=S.size;replace S:=S.av s1;refine eh G G G (Rg.aZ G G (aM ?_));exact aP rfl rfl ⟨congrArg Value.bool (by rw[jh,decide_eq_true_eq];exact hk),S⟩
theorem PQ {M:aE} {d:Dc} {v0:Value} (w0:World) (hM:Lt M w0) (hv:RT.dc.V M w0 d v0) (hl:∀f∈d.2,f.1.length<=900000/\f.2.length<=900000):
  Spec Tryz.prog 93 #[v0] w0 (λv w=>v= .int .i64 (nt d)/\Step M w0 M w ar):=by
 have iz:=hM;refine aS (args:=[_]) (fn:=Tryz.f93) Tryz.func93 G (n:=49) Tryz.ntmps93 ?_;have S:Step M w0 M w0 ar:=aV;refine T.aO ?_;refine Rg.iI (A:=RT.dc) G G hM hv G (λu0 w1 dB s0 _=>?_);replace hM:=s0.lt hM;have:=S.size;replace S:=S.av s0;refine Rg.aZ G G (aI (T.aO ?_));refine au (M:=M) (A:=RT.dc) (B:=(RT.fd).sl) bh G G uJ XT (H8) G G XT a00 (by repeat (first|exact bN _ _|refine bp (bO a00) ?_)) (λB5 lQ=>?_);refine bM (M:=M) bu G G G G G a00 (by repeat (first|exact bN _ _|refine bp (bO a00) ?_)) (λAA mP=>?_);refine bB bu G mP G (il G G G (ad ?_));refine bI G (λc1=>?_) (λc1=>?_)
 ·refine T.aO (Rg.aZ G G (aM ?_));exact aP rfl rfl ⟨by rw[nt,if_pos q0],S.back⟩
 ·refine aR (T.aO (Rg.aZ G G (aI (T.aO ?_))));refine au (M:=M) (A:=RT.dc) (B:=(RT.fd).sl) bh G G uJ XT (H8) G G XT a00 (by repeat (first|exact bN _ _|refine bp (bO a00) ?_)) (λMP td=>?_);refine bM (M:=M) bu G G G G G a00 (by repeat (first|exact bN _ _|refine bp (bO a00) ?_)) (λI7 oQ=>?_);refine bB bu G oQ G (ab G G (ad (aT ?_)));refine cR (σ:=Nat×Nat) (λq=>[(1,u0),(3,.int .i64 (q.2:Int)),(13,I7),(14,.int .i64 (d.2.length:Int)),(15,.int .i64 (q.1:Int))]) (λq w=>∃M',Lt M' w/\Step M w0 M' w ar/\cG RT.dc M' w u0 d/\(RT.fd.sl).V M' w d.2 I7/\nt d=B4 (d.2.take q.1) (d.2.drop q.1) q.2/\q.1<=d.2.length/\q.2<=900001*q.1) (λq=>d.2.length-q.1) (0,0) a34 ?_ ?_
  ·exact⟨M,hM,S,dB,oQ,by rw[nt,if_neg q0];rfl,bm _,aX _⟩
  ·rintro⟨i,n⟩ w ⟨M1,hM,S,dB,oe,F9,hi,hn⟩;dsimp only at F9 hi hn ⊢;refine T.aO (ck G G G (ad (aI ?_)));refine bI G (λc5=>?_) (λc5=>?_)
   ·refine aR (aI (aT (T.aO (ab G G ?_))));refine cx bu ko G G G oe b4 q0 (λu6 x H6 ue=>?_);refine bZ (A:=RT.fd) cJ G ko XT G G G ue b4 (λv6 oR=>?_);rw[aq]at H6;obtain rfl:=j9 oR;have jV:=KT (n:=n) H6;have BR:=hl _ (ax H6);refine ek M1 ko G (λZn alw avg avh qu PR=>?_);obtain⟨Ga,PS⟩:∃M',M'=ins M1 Zn:=⟨_,rfl⟩;rw[<-PS]at PR;have mQ:Ga Zn:=by rw[PS];exact .inl G
    change alw.heap[Zn]? =some (.cells #[.string ⟨#[]⟩,.string ⟨#[]⟩] _ _)at qu;replace dB:=dB.le XT PR.le;replace oe:=oe.le PR.le;replace hM:=PR.lt hM;have:=S.size;replace S:=S.av PR;refine aB G G ?_;refine dX (M:=Ga) (vs:=[.string ⟨x.1.toArray⟩,.string ⟨x.2.toArray⟩]) ko G G al5 rfl rfl qu mQ (λw6 g6 s6=>?_);have:=ae qu;replace mQ:=(s6.mem _ this).2 mQ;replace dB:=dB.le XT s6.le;replace oe:=oe.le s6.le;replace hM:=s6.lt hM;have:=S.size;replace S:=S.trans s6 (λk hk h=>by have h:_=_:=h;subst h;first|(exfalso;omega)|(show _<=_;omega)|exact⟨by first|omega|assumption,(S.mem _ hk).1 ((s6.mem _ (ae qu)).1 mQ)⟩|exact .inl rfl|exact .inr rfl|exact .inr (.inl rfl)|exact .inr (.inr rfl)|exact .inr (.inr (.inl rfl))|exact rfl);have WS:=g6;clear qu;have qu:=WS;clear WS;refine ad (T.aO (aK (o':=1) cJ G G I9 XT G G (aA aG G G G a00 G ?_)));refine aJ G G aj4 (MK _ hM BR.2) (λr7 w7 hc=>?_);obtain⟨⟨u7,rfl,YU⟩,s7⟩:=hc;have:=ae qu;replace mQ:=(s7.mem _ this).2 mQ;replace qu:=s7.ay qu;replace dB:=dB.le XT s7.le;replace oe:=oe.le s7.le;replace hM:=s7.lt hM;have:=S.size;replace S:=S.av s7;refine ab G G (b9 G G G (b9 G G G (aB G G (Rg.aZ G G (aI (aT (T.aO (aK (o':=0) cJ G G I9 XT G G (aA aG G G G a00 G ?_)))))))));refine aJ G G Yz (xB x.1 q0 _) (λr8 w8 hc=>?_);obtain⟨rfl,s8_⟩:=hc;have s8:=s8_ Ga;have:=ae qu;replace mQ:=(s8.mem _ this).2 mQ;replace qu:=s8.ay qu;replace dB:=dB.le XT s8.le;replace oe:=oe.le s8.le;replace hM:=s8.lt hM;have:=S.size;replace S:=S.av s8
    refine gM rfl rfl (aY (v':= .bool (decide (fe x.1=false))) (by cases fe x.1<;>rfl) (Rg.aZ rfl rfl ?_));refine bI G (λc8=>?_) (λc8=>?_)
    ·refine T.aO (Rg.aZ G G (aM ?_));exact aP rfl rfl ⟨by rw[F9,jV,if_pos a00],S.back⟩
    ·refine T.aO ?_;refine au (M:=Ga) (A:=RT.dc) (B:=(RT.fd).sl) bh G G uJ XT (H8) G G XT a00 (by repeat (first|exact bN _ _|refine bp (bO a00) ?_)) (λPT AB=>?_);refine bM (M:=Ga) bu G G G G G a00 (by repeat (first|exact bN _ _|refine bp (bO a00) ?_)) (λaem PU=>?_);refine ab G G ?_;refine Rg.Dy bu ko G G G PU q0 (λMQ oS=>?_);rw[aq]at oS;refine gz (xs:=[]) (ys:=[.tmp 5]) G G G ?_;refine aJ G G aj5 (F8 _ hM oS qu mQ) (λr10 w10 hc=>?_);obtain⟨rfl,oT⟩:=hc;have:=ae qu;replace mQ:=(oT.mem _ this).2 mQ;replace qu:=oT.ay qu;replace dB:=dB.le XT oT.le;replace oe:=oe.le oT.le;replace hM:=oT.lt hM;have:=S.size;replace S:=S.av oT;refine aB rfl rfl (aY (v':= .bool (decide (((d.2.take i).any λg=>decide (g.1=x.1))=true))) (by cases((d.2.take i).any λg=>decide (g.1=x.1))<;>rfl) (ad ?_));refine bI G (λMH=>?_) (λMH=>?_)
     ·refine T.aO (Rg.aZ G G (aM ?_));exact aP rfl rfl ⟨by rw[F9,jV,if_neg a00,if_pos a00],S.back⟩
     ·refine T.aO (ab G G (eR G G G (Rg.aZ G G ?_)));refine bI G (λPx=>?_) (λPx=>?_)
      ·refine T.aO (ab G G (Rg.aZ G G (aM ?_)));exact aP rfl rfl ⟨by rw[F9,jV,if_neg a00,if_neg a00,if_pos a00];rfl,S.back⟩
      ·refine aR (aN (ab G G ?_));have htk:mO 0 (words x.2)=0:=Classical.not_not.1 Px;obtain⟨a,cap,rfl⟩:=YU htk;have WT:=l6 x.2;refine ab G G (Rg.tV Tryz.underlying154 G G (br G G G q0 (Rg.aZ G G (aN (br G G G q0 (ab G G (ad ?_)))))));refine⟨G,(i+1,n+(words x.2).length),a34,?_,?_⟩
       ·exact⟨_,hM,S,dB,oe,by rw[F9,jV,if_neg a00,if_neg a00,if_neg Px],by dsimp only;omega,by dsimp only;omega⟩
       ·dsimp only;omega
   ·refine cE (aI (T.aO (ab G G (il G G G (ad ?_)))));refine bI G (λH9=>?_) (λH9=>?_)
    ·refine T.aO (Rg.aZ G G (aM ?_));exact aP rfl rfl ⟨by rw[F9,vE q0,if_pos q0],S.back⟩
    ·refine aR (T.aO (Rg.aZ G G (aM ?_)));exact aP rfl rfl ⟨by rw[F9,vE q0,if_neg q0],S.back⟩
end Go.K
namespace Go.K
open Go.Proofs
set_option maxRecDepth 10000
theorem xC {M:aE} {d:Dc} {v0:Value} (w0:World) (hM:Lt M w0) (hv:RT.dc.V M w0 d v0) (hl:∀f∈d.2,f.1.length<=900000/\f.2.length<=900000):
  Spec Tryz.prog 29 #[v0] w0 (λv w=>v= .int .i64 (nt d)/\Step M w0 M w ar):=by
 have iz:=hM;refine aS (args:=[_]) (fn:=Tryz.f29) Tryz.func29 G (n:=66) Tryz.ntmps29 ?_;have S:Step M w0 M w0 ar:=aV;refine T.aO ?_;refine Rg.iI (A:=RT.dc) G G hM hv G (λu0 w1 dB s0 _=>?_);replace hM:=s0.lt hM;have:=S.size;replace S:=S.av s0;refine Rg.aZ G G (aI (T.aO ?_));refine au (M:=M) (A:=RT.dc) (B:=(RT.fd).sl) bh G G uJ XT (H8) G G XT a00 (by repeat (first|exact bN _ _|refine bp (bO a00) ?_)) (λB5 lQ=>?_);refine bM (M:=M) bu G G G G G a00 (by repeat (first|exact bN _ _|refine bp (bO a00) ?_)) (λAA mP=>?_);refine bB bu G mP G (il G G G (ad ?_));refine bI G (λc1=>?_) (λc1=>?_)
 ·refine T.aO (Rg.aZ G G (aM ?_));exact aP rfl rfl ⟨by rw[nt,if_pos q0],S.back⟩
 ·refine aR (T.aO (Rg.aZ G G (aI (T.aO (Rg.aZ G G (aT ?_))))));refine cR (σ:=Nat×Nat) (λq=>[(1,u0),(3,.int .i64 (q.2:Int)),(4,.int .i64 (q.1:Int))]) (λq w=>Lt M w/\Step M w0 M w ar/\cG RT.dc M w u0 d/\nt d=B4 (d.2.take q.1) (d.2.drop q.1) q.2/\q.1<=d.2.length/\q.2<=900001*q.1/\d.2.length<=8) (λq=>d.2.length-q.1) (0,0) a07 ?_ ?_
  ·exact⟨hM,S,dB,by rw[nt,if_neg q0];rfl,bm _,aX _,by omega⟩
  ·rintro⟨i,n⟩ w ⟨hM,S,dB,F9,hi,hn,hd8⟩;dsimp only at F9 hi hn ⊢;refine aI (T.aO (ab G G ?_));refine au (M:=M) (A:=RT.dc) (B:=(RT.fd).sl) bh G G uJ XT (H8) G G XT a00 (by repeat (first|exact bN _ _|refine bp (bO a00) ?_)) (λaeo KU=>?_);refine bM (M:=M) bu G G G G G a00 (by repeat (first|exact bN _ _|refine bp (bO a00) ?_)) (λaly WU=>?_);refine bB bu G WU G (ck G G G (ad ?_));refine bI G (λc5=>?_) (λc5=>?_)
   ·refine aR (aI (aT (T.aO ?_)));refine au (M:=M) (A:=RT.dc) (B:=(RT.fd).sl) bh G G uJ XT (H8) G G XT a00 (by repeat (first|exact bN _ _|refine bp (bO a00) ?_)) (λaep KW=>?_);refine bM (M:=M) bu G G G G G a00 (by repeat (first|exact bN _ _|refine bp (bO a00) ?_)) (λalz WV=>?_);refine ab G G ?_;refine cx bu ko G G G WV b4 q0 (λaeq x Gb aqV=>?_);rw[aq]at Gb;refine au (M:=M) (A:=RT.fd) (B:=RT.str) cJ G G I9 XT (MM) G G XT a00 (by repeat (first|exact bN _ _|refine bp (bO a00) ?_)) (λavj aer=>?_);refine bM aG G G G G G aer b4 (λavk aes=>?_);obtain rfl:=eJ aes;have jV:=KT (n:=n) Gb;have BR:=hl _ (ax Gb);refine aJ G G E58 (Az x.1 q0 _) (λr7 w7 hc=>?_);obtain⟨rfl,rfl⟩:=hc;refine Rg.aZ rfl rfl (aI (T.aO (ab rfl rfl (gM rfl rfl (aY (v':= .bool (decide (fe x.1=false))) (by cases fe x.1<;>rfl) (ad ?_))))));refine bI G (λc8=>?_) (λc8=>?_)
    ·refine T.aO (Rg.aZ G G (aM ?_));exact aP rfl rfl ⟨by rw[F9,jV,if_pos a00],S.back⟩
    ·refine aR (aI (T.aO (Rg.aZ G G (aT ?_))));refine cR (σ:=Nat) (λj=>[(1,u0),(3,.int .i64 (n:Int)),(4,.int .i64 (i:Int)),(6,.int .i64 (j:Int))]) (λj w=>Lt M w/\Step M w0 M w ar/\cG RT.dc M w u0 d/\j<=i/\∀k y,k<j->d.2[k]? =some y->y.1≠x.1) (λj=>i-j) 0 a01 ?_ ?_
     ·exact⟨hM,S,dB,bm _,λk c h=>absurd h (eL k)⟩
     ·rintro j w ⟨hM,S,dB,hj,jj⟩;refine aI (T.aO (ab G G (ab G G (ck G G G (ad ?_)))));refine bI G (λIU=>?_) (λIU=>?_)
      ·refine aR (aI (aT (aI ?_)));apply wW mixed rfl rfl;intro PV Zo;have jm:=Zo M;replace dB:=dB.le XT jm.le;replace hM:=jm.lt hM;have:=S.size;replace S:=S.av jm;refine au (M:=M) (A:=RT.dc) (B:=(RT.fd).sl) bh G G uJ XT (H8) G G XT a00 (by repeat (first|exact bN _ _|refine bp (bO a00) ?_)) (λaqW alA=>?_);refine Rg.cI ?_;refine bM (M:=M) bu G G G G G a00 (by repeat (first|exact bN _ _|refine bp (bO a00) ?_)) (λaqX Zp=>?_);refine Rg.cI (ab G G (Rg.cI ?_));refine cx bu ko G G G Zp b4 q0 (λWW y I8 gI=>?_);rw[aq]at I8;refine Rg.cI ?_;refine au (M:=M) (A:=RT.fd) (B:=RT.str) cJ G G I9 XT (MM) G G XT a00 (by repeat (first|exact bN _ _|refine bp (bO a00) ?_)) (λgJ Zq=>?_);refine Rg.cI ?_;refine bM aG G G G G G Zq b4 (λKX xD=>?_);obtain rfl:=eJ xD;refine Rg.cI ?_;refine au (M:=M) (A:=RT.dc) (B:=(RT.fd).sl) bh G G uJ XT (H8) G G XT a00 (by repeat (first|exact bN _ _|refine bp (bO a00) ?_)) (λWX PW=>?_);refine Rg.cI ?_;refine bM (M:=M) bu G G G G G a00 (by repeat (first|exact bN _ _|refine bp (bO a00) ?_)) (λaqY Zr=>?_);refine Rg.cI (ab G G (Rg.cI ?_));refine cx bu ko G G G Zr b4 q0 (λaqZ z PX alB=>?_);rw[aq]at PX;refine Rg.cI ?_;refine au (M:=M) (A:=RT.fd) (B:=RT.str) cJ G G I9 XT (MM) G G XT a00 (by repeat (first|exact bN _ _|refine bp (bO a00) ?_)) (λalC UT=>?_)
       refine Rg.cI ?_;refine bM aG G G G G G UT b4 (λalD UU=>?_);obtain rfl:=eJ UU;refine Rg.cI (Rg.zC (p:=y.1) (q:=z.1) G G G ?_);obtain rfl:x=z:=aF (Gb.symm.trans PX);refine Rg.cI (fB ?_);refine bI G (λJa=>?_) (λJa=>?_)
       ·refine T.aO (Rg.aZ G G (aM ?_));have PY:((d.2.take i).any λg=>decide (g.1=x.1))=true:=ou.2 ⟨y,ax (i:=j) (by rw[dE,if_pos q0];exact I8),by simpa using a00⟩;exact aP rfl rfl ⟨by rw[F9,jV,if_neg a00,if_pos PY],S.back⟩
       ·refine aR (aN (ab G G (br G G G q0 (Rg.aZ G G ?_))));refine⟨G,j+1,a01,?_,?_⟩
        ·exact⟨hM,S,dB,by omega,λk y' h hc=>by
          rcases cL k j with h2|h2
          ·exact jj k y' h2 hc
          ·obtain rfl:k=j:=by omega
           rw[I8]at hc;cases hc;assumption⟩
        ·omega
      ·refine cE (T.aO ?_);refine au (M:=M) (A:=RT.dc) (B:=(RT.fd).sl) bh G G uJ XT (H8) G G XT a00 (by repeat (first|exact bN _ _|refine bp (bO a00) ?_)) (λaq0 alE=>?_);refine bM (M:=M) bu G G G G G a00 (by repeat (first|exact bN _ _|refine bp (bO a00) ?_)) (λaq1 Zs=>?_);refine ab G G ?_;refine cx bu ko G G G Zs b4 q0 (λaq2 z PZ alF=>?_);rw[aq]at PZ;refine au (M:=M) (A:=RT.fd) (B:=RT.str) cJ G G I9 XT (Zk) G G XT a00 (by repeat (first|exact bN _ _|refine bp (bO a00) ?_)) (λaq3 Zt=>?_);refine bM aG G G G G G Zt b4 (λaq4 Zu=>?_);obtain rfl:=eJ Zu;obtain rfl:x=z:=aF (Gb.symm.trans PZ);refine aJ G G E74 (I0 _ hM BR.2) (λr15 Ia hc=>?_);obtain⟨⟨u15,rfl,yT⟩,l7⟩:=hc;replace dB:=dB.le XT l7.le;replace hM:=l7.lt hM;have:=S.size;replace S:=S.av l7;refine ab G G (b9 G G G (b9 G G G (aB G G (Rg.aZ G G (aI (T.aO (ab G G (eR G G G (ad ?_)))))))));refine bI G (λH9=>?_) (λH9=>?_)
       ·refine T.aO (ab G G (Rg.aZ G G (aM ?_)))
        have PY:((d.2.take i).any λg=>decide (g.1=x.1))=false:=fj.2 λh=>by
         obtain⟨y,hy,he⟩:=ou.1 h;obtain⟨k,hk⟩:=bG.1 hy;rw[dE]at hk
         split at hk
         ·exact jj k y q0 hk (by simpa using he)
         ·cases hk
        exact aP rfl rfl ⟨by rw[F9,jV,if_neg a00,if_neg (by rw[PY];simp),if_pos H9];rfl,S.back⟩
       ·refine aR (aN (ab G G ?_));have htk:mO 0 (words x.2)=0:=Classical.not_not.1 H9;obtain⟨a,cap,rfl⟩:=yT htk;have WT:=l6 x.2;refine ab G G (Rg.tV Tryz.underlying154 G G (br G G G q0 (Rg.aZ G G (aN (ab G G (br G G G q0 (Rg.aZ G G ?_)))))))
        have PY:((d.2.take i).any λg=>decide (g.1=x.1))=false:=fj.2 λh=>by
         obtain⟨y,hy,he⟩:=ou.1 h;obtain⟨k,hk⟩:=bG.1 hy;rw[dE]at hk
         split at hk
         ·exact jj k y q0 hk (by simpa using he)
         ·cases hk
        refine⟨G,(i+1,n+(words x.2).length),a07,?_,?_⟩
        ·exact⟨hM,S,dB,by rw[F9,jV,if_neg a00,if_neg (by rw[PY];simp),if_neg H9],by dsimp only;omega,by dsimp only;omega,hd8⟩
        ·dsimp only;omega
   ·refine cE (aI (T.aO (ab G G (il G G G (ad ?_)))));refine bI G (λYZ=>?_) (λYZ=>?_)
    ·refine T.aO (Rg.aZ G G (aM ?_));exact aP rfl rfl ⟨by rw[F9,vE q0,if_pos q0],S.back⟩
    ·refine aR (T.aO (Rg.aZ G G (aM ?_)));exact aP rfl rfl ⟨by rw[F9,vE q0,if_neg q0],S.back⟩
def Gc:List (List UInt8):=[[116],[117],[118],[119]]
def fixF (i:Nat) (x:Fd):Fd:=(if fe x.1=true then x.1 else Gc.getD i [],x.2.take 40)
def oU (id:Int):Nat->List Fd->List Fd->List Fd
 |_,out,[]=>out
 |i,out,x::fs=>if i<4 then(if nt (id,out++[fixF i x])=0 then oU id (i+1) (out++[fixF i x]) fs else oU id (i+1) out fs)else out
def qd (d:Dc):Dc:=(d.1,oU d.1 0 [] d.2)
def uj (l:List Fd):Prop:=∀x∈l,x.1.length<=12/\x.2.length<=40
theorem Gd {s:List UInt8} (h:fe s=true):s.length<=12:=by
 simp only[fe,cp,decide_eq_true_eq]at h;omega
theorem AD {i:Nat} (x:Fd) (hi:i<4):(fixF i x).1.length<=12/\(fixF i x).2.length<=40:=by
 refine⟨?_,by simp only[fixF,bF];omega⟩;unfold fixF;dsimp only
 split
 ·exact Gd a00
 ·have h:i=0\/i=1\/i=2\/i=3:=by omega
  rcases h with rfl|rfl|rfl|rfl<;>decide
theorem uj.snoc {l:List Fd} {x:Fd} (h:uj l) (hx:x.1.length<=12/\x.2.length<=40):uj (l++[x]):=λy hy=>by
 rcases dN.1 hy with hy|hy
 ·exact h y hy
 ·rw[cO.1 hy];exact hx
theorem P0 {id:Int} {fs:List Fd} {i:Nat} {out:List Fd} {x:Fd} (h:fs[i]? =some x) (hi:i<4):oU id i out (fs.drop i)=if nt (id,out++[fixF i x])=0 then oU id (i+1) (out++[fixF i x]) (fs.drop (i+1))else oU id (i+1) out (fs.drop (i+1)):=by
 have eZ:=(al.1 h).1;rw[j0 eZ,(al.1 h).2];show(if i<4 then _ else _)=_;rw[if_pos hi]
theorem CX {id:Int} {fs:List Fd} {i:Nat} {out:List Fd} (h:fs.length<=i\/4<=i):oU id i out (fs.drop i)=out:=by
 cases hd:fs.drop i with
 |nil=>rfl
 |cons x r=>
  show(if i<4 then _ else _)=_;rw[if_neg];rcases h with h|h
  ·rw[lI h]at hd;cases hd
  ·omega
theorem Ge (l:List UInt8):l.take (min (l.length:Int) 40).toNat=l.take 40:=by
 by_cases h:l.length<=40
 ·rw[bg q0,bg h]
 ·congr 1;omega
theorem MR {M:aE} {d:Dc} {v0:Value} (w0:World) (hM:Lt M w0) (hv:RT.dc.V M w0 d v0):
  Spec Tryz.prog 47 #[v0] w0 (λv w=>RT.dc.V M w (qd d) v/\Step M w0 M w ar):=by
 have iz:=hM
 have hdi: -9223372036854775808<=d.1/\d.1<=9223372036854775807:=by
  obtain⟨vs,⟨va,vb,_,⟨_,h1,h2⟩,_⟩,_⟩:=hv;exact⟨h1,h2⟩
 refine aS (args:=[_]) (fn:=Tryz.f47) Tryz.func47 G (n:=67) Tryz.ntmps47 ?_;have S:Step M w0 M w0 ar:=aV;refine T.aO ?_;refine Rg.iI (A:=RT.dc) G G hM hv G (λu0 w1 dB s0 _=>?_);replace hM:=s0.lt hM;have:=S.size;replace S:=S.av s0;refine ek M nr G (λka xE MS MT fc ju=>?_);obtain⟨gq,iK⟩:∃M',M'=ins M ka:=⟨_,rfl⟩;rw[<-iK]at ju;have eo:gq ka:=by rw[iK];exact .inl G
 change xE.heap[ka]? =some (.cells #[.int .i64 0,.slice none 0 0] _ _)at fc;replace dB:=dB.le XT ju.le;replace hM:=ju.lt hM;have:=S.size;replace S:=S.av ju;refine ad (T.aO ?_);refine au (M:=gq) (A:=RT.dc) (B:=RT.int .i64) bh G G I3 XT (dc0) G G XT a00 (by repeat (first|exact bN _ _|refine bp (bO a00) ?_)) (λB5 lQ=>?_);refine bV (M:=gq) aj G G a00 (by repeat (first|exact bN _ _|refine bp (bO a00) ?_)) (λWY=>?_);refine dp (places:=[(0,1),(1,1)]) bh nr B72 rfl ⟨_,_,rfl,rfl,rfl⟩ (out:=[_,.slice none 0 0]) ⟨0,[_],rfl,rfl,by simp[Value.cells],rfl⟩ ?_;refine ek gq nr G (λlA BY YR YS gr s1_3=>?_);obtain⟨lB,rq⟩:∃M',M'=ins gq lA:=⟨_,rfl⟩;rw[<-rq]at s1_3;have ic:lB lA:=by rw[rq];exact .inl G
 change BY.heap[lA]? =some (.cells #[.int .i64 0,.slice none 0 0] _ _)at gr;have:=ae fc;replace eo:=(s1_3.mem _ this).2 eo;replace fc:=s1_3.ay fc;replace dB:=dB.le XT s1_3.le;replace hM:=s1_3.lt hM;have:=S.size;replace S:=S.av s1_3;refine dX (M:=lB) (vs:=[.int .i64 d.1,.slice none 0 0]) nr G G a16 rfl rfl gr ic (λw1b alG Zv=>?_);have:=ae fc;replace eo:=(Zv.mem _ this).2 eo;replace fc:=Zv.bL fc a05;have:=ae gr;replace ic:=(Zv.mem _ this).2 ic;replace dB:=dB.le XT Zv.le;replace hM:=Zv.lt hM;have:=S.size;replace S:=S.trans Zv (λk hk h=>by have h:_=_:=h;subst h;first|(exfalso;omega)|(show _<=_;omega)|exact⟨by first|omega|assumption,(S.mem _ hk).1 ((Zv.mem _ (ae gr)).1 ic)⟩|exact .inl rfl|exact .inr rfl|exact .inr (.inl rfl)|exact .inr (.inr rfl)|exact .inr (.inr (.inl rfl))|exact rfl);have qZ:=alG;clear gr;have gr:=qZ;clear qZ;refine ad (T.aO ?_);refine Rg.Ub (A:=RT.str) (hn:=by decide) (M:=lB) (xs:=Gc) aQ I9 G XT rfl ⟨_,_,_,rfl,rfl,rfl,mj.2 ⟨rfl,by decide⟩,_,_,_,rfl,rfl,rfl,mj.2 ⟨rfl,by decide⟩,_,_,_,rfl,rfl,rfl,mj.2 ⟨rfl,by decide⟩,_,_,_,rfl,rfl,rfl,mj.2 ⟨rfl,by decide⟩,rfl⟩ rfl hM (.inr ⟨rfl,rfl⟩) XT (λu2 w2 ej s2=>?_);have:=ae fc;replace eo:=(s2.mem _ this).2 eo;replace fc:=s2.ay fc;have:=ae gr;replace ic:=(s2.mem _ this).2 ic;replace gr:=s2.ay gr;replace dB:=dB.le XT s2.le;replace hM:=s2.lt hM;have:=S.size;replace S:=S.av s2;refine Rg.aZ G G (aI (T.aO (Rg.aZ G G (aT ?_))));refine cR (σ:=Nat×List Fd) (λq=>[(1,u0),(2,.pointer (some ⟨ka,0,none⟩)),(3,.pointer (some ⟨lA,0,none⟩)),(4,u2),(5,.int .i64 (q.1:Int))]) (λq w=>∃M' uo,Lt M' w/\Step M w0 M' w ar/\cG RT.dc M' w u0 d/\(RT.str.sl).V M' w Gc u2/\w.heap[ka]? =some (.cells #[.int .i64 0,.slice none 0 0] 72 (0,0))/\M' ka/\w.heap[lA]? =some (.cells #[.int .i64 d.1,uo] 72 (0,0))/\M' lA/\(RT.fd.sl).V M' w q.2 uo/\oU d.1 0 [] d.2=oU d.1 q.1 q.2 (d.2.drop q.1)/\q.1<=d.2.length/\q.1<=4/\uj q.2/\q.2.length<=q.1) (λq=>d.2.length-q.1) (0,[]) a34 ?_ ?_
 ·exact⟨_,.slice none 0 0,hM,S,dB,ej,fc,eo,gr,ic,gC,G,bm _,bm _,(λx hx=>by cases hx),aX _⟩
 ·rintro⟨i,out⟩ w ⟨M1,uo,hM,S,dB,ej,g2,dY,g3,fF,iZ,yA,hi,alH,Dz,te⟩;dsimp only at g3 iZ yA hi alH Dz te ⊢;refine aI (T.aO (ab G G ?_));refine au (M:=M1) (A:=RT.dc) (B:=(RT.fd).sl) bh G G uJ XT (H8) G G XT a00 (by repeat (first|exact bN _ _|refine bp (bO a00) ?_)) (λaeh WZ=>?_);refine bM (M:=M1) bu G G G G G a00 (by repeat (first|exact bN _ _|refine bp (bO a00) ?_)) (λavm aet=>?_);refine bB bu G aet G (ck G G G (ab G G ?_));refine aW (g:=18) G (λZw=>?_) (λZw=>?_)
  ·refine ah G G (ab G G (ah G G (ck G G G (a8 G G G (ad ?_)))));refine bI G (λc4=>?_) (λc4=>?_)
   ·refine aR (aI (aT (T.aO ?_)));refine au (M:=M1) (A:=RT.dc) (B:=(RT.fd).sl) bh G G uJ XT (H8) G G XT a00 (by repeat (first|exact bN _ _|refine bp (bO a00) ?_)) (λZx Gf=>?_);refine bM (M:=M1) bu G G G G G a00 (by repeat (first|exact bN _ _|refine bp (bO a00) ?_)) (λZy AE=>?_);refine ab G G ?_;refine cx bu ko G G G AE b4 q0 (λu6 x H6 ue=>?_);rw[aq]at H6;have hi4:i<4:=by omega
    have hga:=P0 (id:=d.1) (out:=out) H6 hi4;have W0:=AD x hi4;refine bZ (A:=RT.fd) cJ G ko XT G G G ue b4 (λv6 oR=>?_);obtain rfl:=j9 oR;have P1:=I2 oR;refine ek M1 ko G (λZz aeu avn avo ew uk=>?_);obtain⟨oV,P2⟩:∃M',M'=ins M1 Zz:=⟨_,rfl⟩;rw[<-P2]at uk;have dG:oV Zz:=by rw[P2];exact .inl G
    change aeu.heap[Zz]? =some (.cells #[.string ⟨#[]⟩,.string ⟨#[]⟩] _ _)at ew;have:=ae g2;replace dY:=(uk.mem _ this).2 dY;replace g2:=uk.ay g2;have:=ae g3;replace fF:=(uk.mem _ this).2 fF;replace g3:=uk.ay g3;replace dB:=dB.le XT uk.le;replace ej:=ej.le uk.le;replace iZ:=iZ.le uk.le;replace hM:=uk.lt hM;have:=S.size;replace S:=S.av uk;refine dX (M:=oV) (vs:=[.string ⟨x.1.toArray⟩,.string ⟨x.2.toArray⟩]) ko G G a16 rfl rfl ew dG (λw6b alI P3=>?_);have:=ae g2;replace dY:=(P3.mem _ this).2 dY;replace g2:=P3.bL g2 a05;have:=ae g3;replace fF:=(P3.mem _ this).2 fF;replace g3:=P3.bL g3 a05;have:=ae ew;replace dG:=(P3.mem _ this).2 dG;replace dB:=dB.le XT P3.le;replace ej:=ej.le P3.le;replace iZ:=iZ.le P3.le;replace hM:=P3.lt hM;have:=S.size;replace S:=S.trans P3 (λk hk h=>by have h:_=_:=h;subst h;first|(exfalso;omega)|(show _<=_;omega)|exact⟨by first|omega|assumption,(S.mem _ hk).1 ((P3.mem _ (ae ew)).1 dG)⟩|exact .inl rfl|exact .inr rfl|exact .inr (.inl rfl)|exact .inr (.inr rfl)|exact .inr (.inr (.inl rfl))|exact rfl);have rr:=alI;clear ew;have ew:=rr;clear rr;refine ad (T.aO (aK (o':=0) cJ G G I9 XT G G (aA aG G G G a00 G ?_)));refine aJ G G E58 (Az x.1 P1.1 _) (λr7 w7 hc=>?_);obtain⟨rfl,rfl⟩:=hc;refine Rg.aZ rfl rfl (aI (T.aO (ab rfl rfl (gM rfl rfl (aY (v':= .bool (decide (fe x.1=false))) (by cases fe x.1<;>rfl) (ad ?_))))));refine bI G (λc8=>?_) (λc8=>?_)
    ·refine aN (ab G G (ab G G ?_));refine cx aQ I9 rfl rfl rfl ej b4 (by have:Gc.length=4:=rfl;omega) (λu9 y TS hu9=>?_);rw[aq]at TS;refine bM aG G G G G G hu9 b4 (λv9 MU=>?_);obtain rfl:=eJ MU
     obtain rfl:y=(fixF i x).1:=by
      show y=if fe x.1=true then x.1 else Gc.getD i []
      rw[if_neg (by rw[c8];simp),bY,TS];rfl
     refine aK (o':=0) cJ G G I9 XT G G ?_;refine ch (M:=oV) I9 G G ew G (G) dG (λaei aew rp=>?_);change aei.heap[_]? =some (Obj.cells #[.string ⟨((fixF i x).1).toArray⟩,.string ⟨x.2.toArray⟩] _ _)at aew;have:=ae g2;replace dY:=(rp.mem _ this).2 dY;replace g2:=rp.bL g2 a05;have:=ae g3;replace fF:=(rp.mem _ this).2 fF;replace g3:=rp.bL g3 a05;have:=ae ew;replace dG:=(rp.mem _ this).2 dG;replace dB:=dB.le XT rp.le;replace ej:=ej.le rp.le;replace iZ:=iZ.le rp.le;replace hM:=rp.lt hM;have:=S.size;replace S:=S.trans rp (λk hk h=>by have h:_=_:=h;subst h;first|(exfalso;omega)|(show _<=_;omega)|exact⟨by first|omega|assumption,(S.mem _ hk).1 ((rp.mem _ (ae ew)).1 dG)⟩|exact .inl rfl|exact .inr rfl|exact .inr (.inl rfl)|exact .inr (.inr rfl)|exact .inr (.inr (.inl rfl))|exact rfl);have rr:=aew;clear ew;have ew:=rr;clear rr;refine ad (T.aO (aK (o':=1) cJ G G I9 XT G G (aA aG G G G a00 G (aK (o':=1) cJ G G I9 XT G G (aA aG G G G a00 G (zg aG G G (aY (v':= .int .i64 (x.2.length:Int)) a86 (Rg.min2 G G G (Rg.WH aG G G G q0 (aY (v':= .string ⟨((fixF i x).2).toArray⟩) (by rw[Ge];rfl) ?_))))))))));refine aK (o':=1) cJ G G I9 XT G G ?_;refine ch (M:=oV) I9 G G ew G (G) dG (λKS Gg hU=>?_);change KS.heap[_]? =some (Obj.cells #[.string ⟨((fixF i x).1).toArray⟩,.string ⟨((fixF i x).2).toArray⟩] _ _)at Gg;have:=ae g2;replace dY:=(hU.mem _ this).2 dY;replace g2:=hU.bL g2 a05
     have:=ae g3;replace fF:=(hU.mem _ this).2 fF;replace g3:=hU.bL g3 a05;have:=ae ew;replace dG:=(hU.mem _ this).2 dG;replace dB:=dB.le XT hU.le;replace ej:=ej.le hU.le;replace iZ:=iZ.le hU.le;replace hM:=hU.lt hM;have:=S.size;replace S:=S.trans hU (λk hk h=>by have h:_=_:=h;subst h;first|(exfalso;omega)|(show _<=_;omega)|exact⟨by first|omega|assumption,(S.mem _ hk).1 ((hU.mem _ (ae ew)).1 dG)⟩|exact .inl rfl|exact .inr rfl|exact .inr (.inl rfl)|exact .inr (.inr rfl)|exact .inr (.inr (.inl rfl))|exact rfl);have rr:=Gg;clear ew;have ew:=rr;clear rr;refine ad (T.aO ?_);refine au (M:=oV) (A:=RT.dc) (B:=RT.int .i64) bh G G I3 XT (dc0) G G XT a00 (by repeat (first|exact bN _ _|refine bp (bO a00) ?_)) (λW2 P4=>?_);refine bV (M:=oV) aj G G a00 (by repeat (first|exact bN _ _|refine bp (bO a00) ?_)) (λZA=>?_);refine dp (places:=[(0,1),(1,1)]) bh nr B72 rfl ⟨_,_,rfl,rfl,rfl⟩ (out:=[_,.slice none 0 0]) ⟨0,[_],rfl,rfl,by simp[Value.cells],rfl⟩ ?_;refine ek oV nr G (λAF Ad aex aey dx fT=>?_);obtain⟨um,vF⟩:∃M',M'=ins oV AF:=⟨_,rfl⟩;rw[<-vF]at fT;have dy:um AF:=by rw[vF];exact .inl G
     change Ad.heap[AF]? =some (.cells #[.int .i64 0,.slice none 0 0] _ _)at dx;have:=ae g2;replace dY:=(fT.mem _ this).2 dY;replace g2:=fT.ay g2;have:=ae g3;replace fF:=(fT.mem _ this).2 fF;replace g3:=fT.ay g3;have:=ae ew;replace dG:=(fT.mem _ this).2 dG;replace ew:=fT.ay ew;replace dB:=dB.le XT fT.le;replace ej:=ej.le fT.le;replace iZ:=iZ.le fT.le;replace hM:=fT.lt hM;have:=S.size;replace S:=S.av fT;refine dX (M:=um) (vs:=[.int .i64 d.1,.slice none 0 0]) nr G G a16 rfl rfl dx dy (λD8 P5 kX=>?_);have:=ae g2;replace dY:=(kX.mem _ this).2 dY;replace g2:=kX.bL g2 a05;have:=ae g3;replace fF:=(kX.mem _ this).2 fF;replace g3:=kX.bL g3 a05;have:=ae ew;replace dG:=(kX.mem _ this).2 dG;replace ew:=kX.bL ew a05;have:=ae dx;replace dy:=(kX.mem _ this).2 dy;replace dB:=dB.le XT kX.le;replace ej:=ej.le kX.le;replace iZ:=iZ.le kX.le;replace hM:=kX.lt hM;have:=S.size;replace S:=S.trans kX (λk hk h=>by have h:_=_:=h;subst h;first|(exfalso;omega)|(show _<=_;omega)|exact⟨by first|omega|assumption,(S.mem _ hk).1 ((kX.mem _ (ae dx)).1 dy)⟩|exact .inl rfl|exact .inr rfl|exact .inr (.inl rfl)|exact .inr (.inr rfl)|exact .inr (.inr (.inl rfl))|exact rfl);have jF:=P5;clear dx;have dx:=jF;clear jF;refine ad (T.aO (aK (o':=1) bh G G uJ XT G G (aA bu G G G a00 G (aK (o':=1) bh G G uJ XT G G (aA bu G G G a00 G ?_)))));have dU:=Own.WR RT.fd 153 D8.heap.size hM
     have alJ:=ae ew;have P7:w0.heap.size<=D8.heap.size:=S.size;refine dA (M:=um) (base:=D8.heap.size) bu ko rfl rfl rfl rfl dU iZ b4 a13 a13 (aX _) (λAw rn PL uh fE=>?_);have:=ae g2;replace dY:=(fE.mem _ this).2 dY;replace g2:=fE.bL g2 (λh=>by first|exact dU.eT g2 h|exact dU.fk g2 XT h|(have:=(dU.base _ h).1;omega));have:=ae g3;replace fF:=(fE.mem _ this).2 fF;replace g3:=fE.bL g3 (λh=>by first|exact dU.eT g3 h|exact dU.fk g3 XT h|(have:=(dU.base _ h).1;omega));have:=ae ew;replace dG:=(fE.mem _ this).2 dG;replace ew:=fE.bL ew (λh=>by first|exact dU.eT ew h|exact dU.fk ew XT h|(have:=(dU.base _ h).1;omega));have:=ae dx;replace dy:=(fE.mem _ this).2 dy;replace dx:=fE.bL dx (λh=>by first|exact dU.eT dx h|exact dU.fk dx XT h|(have:=(dU.base _ h).1;omega));replace dB:=dB.le XT fE.le;replace ej:=ej.le fE.le;replace iZ:=iZ.le fE.le;replace hM:=fE.lt hM;have:=S.size;replace S:=S.eg fE dU P7;replace dU:=uh;refine aK (o':=1) bh G G uJ XT G G ?_;refine ch (M:=rn) uJ rfl rfl dx rfl (af7) dy (λP8 Gh gV=>?_);change P8.heap[_]? =some (Obj.cells #[.int .i64 d.1,Aw] _ _)at Gh;have:=ae g2;replace dY:=(gV.mem _ this).2 dY;replace g2:=gV.bL g2 a05;have:=ae g3;replace fF:=(gV.mem _ this).2 fF;replace g3:=gV.bL g3 a05;have:=ae ew;replace dG:=(gV.mem _ this).2 dG;replace ew:=gV.bL ew a05;have:=ae dx;replace dy:=(gV.mem _ this).2 dy;replace dB:=dB.le XT gV.le
     replace ej:=ej.le gV.le;replace iZ:=iZ.le gV.le;replace dU:=dU.step gV (λb hb hk=>by have hk:_=_:=hk;have:=(dU.base b hb);omega);replace hM:=gV.lt hM;have:=S.size;replace S:=S.trans gV (λk hk h=>by have h:_=_:=h;subst h;first|(exfalso;omega)|(show _<=_;omega)|exact⟨by first|omega|assumption,(S.mem _ hk).1 ((gV.mem _ (ae dx)).1 dy)⟩|exact .inl rfl|exact .inr rfl|exact .inr (.inl rfl)|exact .inr (.inr rfl)|exact .inr (.inr (.inl rfl))|exact rfl);have jF:=Gh;clear dx;have dx:=jF;clear jF;refine ad (T.aO (aK (o':=1) bh G G uJ XT G G (aA bu G G G a00 G (eQ (vs:=[.string ⟨((fixF i x).1).toArray⟩,.string ⟨((fixF i x).2).toArray⟩]) cJ G ko G G G ew ?_))));refine fm (A:=RT.fd) (hn:=by decide) (M:=rn) bu ko XT G G hM (show RT.fd.V _ _ (fixF i x) _ from fR (mj.2 ⟨G,ep W0.1 XT⟩) (mj.2 ⟨G,ep W0.2 XT⟩) G G G G) (.inl G) (λWW aez gI gX=>?_);have:=ae g2;replace dY:=(gX.mem _ this).2 dY;replace g2:=gX.ay g2;have:=ae g3;replace fF:=(gX.mem _ this).2 fF;replace g3:=gX.ay g3;have:=ae ew;replace dG:=(gX.mem _ this).2 dG;replace ew:=gX.ay ew;have:=ae dx;replace dy:=(gX.mem _ this).2 dy;replace dx:=gX.ay dx;replace dB:=dB.le XT gX.le;replace ej:=ej.le gX.le;replace iZ:=iZ.le gX.le;replace dU:=dU.bD gX;replace hM:=gX.lt hM;have:=S.size;replace S:=S.av gX;refine dA (M:=rn) (base:=D8.heap.size) bu ko rfl rfl rfl rfl dU gI b4 a13 a13 (by have:=fE.size;have:=gV.size;have:=gX.size;omega) (λgJ mR aeA Jb iw=>?_);have:=ae g2;replace dY:=(iw.mem _ this).2 dY
     replace g2:=iw.bL g2 (λh=>by first|exact dU.eT g2 h|exact dU.fk g2 XT h|(have:=(dU.base _ h).1;omega));have:=ae g3;replace fF:=(iw.mem _ this).2 fF;replace g3:=iw.bL g3 (λh=>by first|exact dU.eT g3 h|exact dU.fk g3 XT h|(have:=(dU.base _ h).1;omega));have:=ae ew;replace dG:=(iw.mem _ this).2 dG;replace ew:=iw.bL ew (λh=>by first|exact dU.eT ew h|exact dU.fk ew XT h|(have:=(dU.base _ h).1;omega));have:=ae dx;replace dy:=(iw.mem _ this).2 dy;replace dx:=iw.bL dx (λh=>by first|exact dU.eT dx h|exact dU.fk dx XT h|(have:=(dU.base _ h).1;omega));replace dB:=dB.le XT iw.le;replace ej:=ej.le iw.le;replace iZ:=iZ.le iw.le;replace gI:=gI.le iw.le;replace hM:=iw.lt hM;have:=S.size;replace S:=S.eg iw dU P7;replace dU:=Jb;refine aK (o':=1) bh G G uJ XT G G ?_;refine ch (M:=mR) uJ rfl rfl dx rfl (af7) dy (λP9 Gi gY=>?_);change P9.heap[_]? =some (Obj.cells #[.int .i64 d.1,gJ] _ _)at Gi;have:=ae g2;replace dY:=(gY.mem _ this).2 dY;replace g2:=gY.bL g2 a05;have:=ae g3;replace fF:=(gY.mem _ this).2 fF;replace g3:=gY.bL g3 a05;have:=ae ew;replace dG:=(gY.mem _ this).2 dG;replace ew:=gY.bL ew a05;have:=ae dx;replace dy:=(gY.mem _ this).2 dy;replace dB:=dB.le XT gY.le;replace ej:=ej.le gY.le;replace iZ:=iZ.le gY.le;replace gI:=gI.le gY.le;replace dU:=dU.step gY (λb hb hk=>by have hk:_=_:=hk;have:=(dU.base b hb);omega);replace hM:=gY.lt hM;have:=S.size;replace S:=S.trans gY (λk hk h=>by have h:_=_:=h;subst h;first|(exfalso;omega)|(show _<=_;omega)|exact⟨by first|omega|assumption,(S.mem _ hk).1 ((gY.mem _ (ae dx)).1 dy)⟩|exact .inl rfl|exact .inr rfl|exact .inr (.inl rfl)|exact .inr (.inr rfl)|exact .inr (.inr (.inl rfl))|exact rfl)
     have jF:=Gi;clear dx;have dx:=jF;clear jF;refine ad (T.aO (eQ (vs:=[.int .i64 d.1,gJ]) bh G nr G G G dx ?_));have zj:=dU.view (hn:=by decide) a13;replace dY:rm mR gJ _:=⟨dY,by first|exact dU.fk g2 XT|(intro h;have:=(dU.base _ h).1;omega)⟩;replace fF:rm mR gJ _:=⟨fF,by first|exact dU.fk g3 XT|(intro h;have:=(dU.base _ h).1;omega)⟩;replace dG:rm mR gJ _:=⟨dG,by first|exact dU.fk ew XT|(intro h;have:=(dU.base _ h).1;omega)⟩;replace dy:rm mR gJ _:=⟨dy,by first|exact dU.fk dx XT|(intro h;have:=(dU.base _ h).1;omega)⟩;replace dB:=dB.le XT (uR _ gJ _);replace ej:=ej.le (uR _ gJ _);replace iZ:=iZ.le (uR _ gJ _);replace gI:=gI.le (uR _ gJ _);replace hM:Lt (rm mR gJ) _:=λb hb=>hM b hb.1
     replace S:=S.freeze (v:=gJ) (λb hb=>by have:=(dU.base b hb).1;omega);clear dU;refine aJ G G E29 (xC (d:=(d.1,[]++out++[fixF i x])) _ hM (fR (iG hdi) zj G G G G) (λy hy=>by have:=(Dz.snoc W0) y an7;omega)) (λr14 Oi hc=>?_);obtain⟨rfl,iO⟩:=hc;rw[kd]at zj;have:=ae g2;replace dY:=(iO.mem _ this).2 dY;replace g2:=iO.ay g2;have:=ae g3;replace fF:=(iO.mem _ this).2 fF;replace g3:=iO.ay g3;have:=ae ew;replace dG:=(iO.mem _ this).2 dG;replace ew:=iO.ay ew;have:=ae dx;replace dy:=(iO.mem _ this).2 dy;replace dx:=iO.ay dx;replace dB:=dB.le XT iO.le;replace ej:=ej.le iO.le;replace iZ:=iZ.le iO.le;replace gI:=gI.le iO.le;replace zj:=zj.le iO.le;replace hM:=iO.lt hM;have:=S.size;replace S:=S.av iO;refine gN G G G (aY (v':= .bool (decide (nt (d.1,out++[fixF i x])=0))) (by rw[kd]) (ad ?_));refine bI G (λMV=>?_) (λMV=>?_)
     ·refine aN (eQ (vs:=[.int .i64 d.1,gJ]) bh G nr G G G dx ?_);refine dX (M:=rm mR gJ) (vs:=[.int .i64 d.1,gJ]) nr G G a16 rfl rfl g3 fF (λalK Qa kb=>?_);have:=ae g2;replace dY:=(kb.mem _ this).2 dY;replace g2:=kb.bL g2 a05;have:=ae g3;replace fF:=(kb.mem _ this).2 fF;have:=ae ew;replace dG:=(kb.mem _ this).2 dG;replace ew:=kb.bL ew a05;have:=ae dx;replace dy:=(kb.mem _ this).2 dy;replace dx:=kb.bL dx a05;replace dB:=dB.le XT kb.le;replace ej:=ej.le kb.le;replace iZ:=iZ.le kb.le;replace gI:=gI.le kb.le;replace zj:=zj.le kb.le;replace hM:=kb.lt hM;have:=S.size;replace S:=S.trans kb (λk hk h=>by have h:_=_:=h;subst h;first|(exfalso;omega)|(show _<=_;omega)|exact⟨by first|omega|assumption,(S.mem _ hk).1 ((kb.mem _ (ae g3)).1 fF)⟩|exact .inl rfl|exact .inr rfl|exact .inr (.inl rfl)|exact .inr (.inr rfl)|exact .inr (.inr (.inl rfl))|exact rfl);have g3_:=Qa;clear g3;have g3:=g3_;clear g3_;refine ad (aN (ab G G (br G G G q0 (Rg.aZ G G ?_))));refine⟨G,(i+1,out++[fixF i x]),a34,?_,?_⟩
      ·exact⟨_,_,hM,S,dB,ej,g2,dY,g3,fF,zj,by rw[yA,hga,if_pos MV],by dsimp only;omega,by dsimp only;omega,Dz.snoc W0,by simp;omega⟩
      ·dsimp only;omega
     ·refine aR (aN (ab G G (br G G G q0 (Rg.aZ G G ?_))));refine⟨G,(i+1,out),a34,?_,?_⟩
      ·exact⟨_,_,hM,S,dB,ej,g2,dY,g3,fF,iZ,by rw[yA,hga,if_neg MV],by dsimp only;omega,by dsimp only;omega,Dz,by dsimp only;omega⟩
      ·dsimp only;omega
    ·rw[show x.1=(fixF i x).1 from by show x.1=if fe x.1=true then x.1 else _;rw[if_pos (by cases hq:fe x.1 with|true=>rfl|false=>exact absurd hq c8)]]at ew;refine aR (T.aO (aK (o':=1) cJ G G I9 XT G G (aA aG G G G a00 G (aK (o':=1) cJ G G I9 XT G G (aA aG G G G a00 G (zg aG G G (aY (v':= .int .i64 (x.2.length:Int)) a86 (Rg.min2 G G G (Rg.WH aG G G G q0 (aY (v':= .string ⟨((fixF i x).2).toArray⟩) (by rw[Ge];rfl) ?_))))))))));refine aK (o':=1) cJ G G I9 XT G G ?_;refine ch (M:=oV) I9 G G ew G (G) dG (λKS Gg hU=>?_);change KS.heap[_]? =some (Obj.cells #[.string ⟨((fixF i x).1).toArray⟩,.string ⟨((fixF i x).2).toArray⟩] _ _)at Gg;have:=ae g2;replace dY:=(hU.mem _ this).2 dY;replace g2:=hU.bL g2 a05;have:=ae g3;replace fF:=(hU.mem _ this).2 fF;replace g3:=hU.bL g3 a05;have:=ae ew;replace dG:=(hU.mem _ this).2 dG;replace dB:=dB.le XT hU.le;replace ej:=ej.le hU.le;replace iZ:=iZ.le hU.le;replace hM:=hU.lt hM;have:=S.size;replace S:=S.trans hU (λk hk h=>by have h:_=_:=h;subst h;first|(exfalso;omega)|(show _<=_;omega)|exact⟨by first|omega|assumption,(S.mem _ hk).1 ((hU.mem _ (ae ew)).1 dG)⟩|exact .inl rfl|exact .inr rfl|exact .inr (.inl rfl)|exact .inr (.inr rfl)|exact .inr (.inr (.inl rfl))|exact rfl);have rr:=Gg;clear ew;have ew:=rr;clear rr;refine ad (T.aO ?_);refine au (M:=oV) (A:=RT.dc) (B:=RT.int .i64) bh G G I3 XT (dc0) G G XT a00 (by repeat (first|exact bN _ _|refine bp (bO a00) ?_)) (λW2 P4=>?_)
     refine bV (M:=oV) aj G G a00 (by repeat (first|exact bN _ _|refine bp (bO a00) ?_)) (λZA=>?_);refine dp (places:=[(0,1),(1,1)]) bh nr B72 rfl ⟨_,_,rfl,rfl,rfl⟩ (out:=[_,.slice none 0 0]) ⟨0,[_],rfl,rfl,by simp[Value.cells],rfl⟩ ?_;refine ek oV nr G (λAF Ad aex aey dx fT=>?_);obtain⟨um,vF⟩:∃M',M'=ins oV AF:=⟨_,rfl⟩;rw[<-vF]at fT;have dy:um AF:=by rw[vF];exact .inl G
     change Ad.heap[AF]? =some (.cells #[.int .i64 0,.slice none 0 0] _ _)at dx;have:=ae g2;replace dY:=(fT.mem _ this).2 dY;replace g2:=fT.ay g2;have:=ae g3;replace fF:=(fT.mem _ this).2 fF;replace g3:=fT.ay g3;have:=ae ew;replace dG:=(fT.mem _ this).2 dG;replace ew:=fT.ay ew;replace dB:=dB.le XT fT.le;replace ej:=ej.le fT.le;replace iZ:=iZ.le fT.le;replace hM:=fT.lt hM;have:=S.size;replace S:=S.av fT;refine dX (M:=um) (vs:=[.int .i64 d.1,.slice none 0 0]) nr G G a16 rfl rfl dx dy (λD8 P5 kX=>?_);have:=ae g2;replace dY:=(kX.mem _ this).2 dY;replace g2:=kX.bL g2 a05;have:=ae g3;replace fF:=(kX.mem _ this).2 fF;replace g3:=kX.bL g3 a05;have:=ae ew;replace dG:=(kX.mem _ this).2 dG;replace ew:=kX.bL ew a05;have:=ae dx;replace dy:=(kX.mem _ this).2 dy;replace dB:=dB.le XT kX.le;replace ej:=ej.le kX.le;replace iZ:=iZ.le kX.le;replace hM:=kX.lt hM;have:=S.size;replace S:=S.trans kX (λk hk h=>by have h:_=_:=h;subst h;first|(exfalso;omega)|(show _<=_;omega)|exact⟨by first|omega|assumption,(S.mem _ hk).1 ((kX.mem _ (ae dx)).1 dy)⟩|exact .inl rfl|exact .inr rfl|exact .inr (.inl rfl)|exact .inr (.inr rfl)|exact .inr (.inr (.inl rfl))|exact rfl);have jF:=P5;clear dx;have dx:=jF;clear jF;refine ad (T.aO (aK (o':=1) bh G G uJ XT G G (aA bu G G G a00 G (aK (o':=1) bh G G uJ XT G G (aA bu G G G a00 G ?_)))));have dU:=Own.WR RT.fd 153 D8.heap.size hM
     have alJ:=ae ew;have P7:w0.heap.size<=D8.heap.size:=S.size;refine dA (M:=um) (base:=D8.heap.size) bu ko rfl rfl rfl rfl dU iZ b4 a13 a13 (aX _) (λAw rn PL uh fE=>?_);have:=ae g2;replace dY:=(fE.mem _ this).2 dY;replace g2:=fE.bL g2 (λh=>by first|exact dU.eT g2 h|exact dU.fk g2 XT h|(have:=(dU.base _ h).1;omega));have:=ae g3;replace fF:=(fE.mem _ this).2 fF;replace g3:=fE.bL g3 (λh=>by first|exact dU.eT g3 h|exact dU.fk g3 XT h|(have:=(dU.base _ h).1;omega));have:=ae ew;replace dG:=(fE.mem _ this).2 dG;replace ew:=fE.bL ew (λh=>by first|exact dU.eT ew h|exact dU.fk ew XT h|(have:=(dU.base _ h).1;omega));have:=ae dx;replace dy:=(fE.mem _ this).2 dy;replace dx:=fE.bL dx (λh=>by first|exact dU.eT dx h|exact dU.fk dx XT h|(have:=(dU.base _ h).1;omega));replace dB:=dB.le XT fE.le;replace ej:=ej.le fE.le;replace iZ:=iZ.le fE.le;replace hM:=fE.lt hM;have:=S.size;replace S:=S.eg fE dU P7;replace dU:=uh;refine aK (o':=1) bh G G uJ XT G G ?_;refine ch (M:=rn) uJ rfl rfl dx rfl (af7) dy (λP8 Gh gV=>?_);change P8.heap[_]? =some (Obj.cells #[.int .i64 d.1,Aw] _ _)at Gh;have:=ae g2;replace dY:=(gV.mem _ this).2 dY;replace g2:=gV.bL g2 a05;have:=ae g3;replace fF:=(gV.mem _ this).2 fF;replace g3:=gV.bL g3 a05;have:=ae ew;replace dG:=(gV.mem _ this).2 dG;replace ew:=gV.bL ew a05;have:=ae dx;replace dy:=(gV.mem _ this).2 dy;replace dB:=dB.le XT gV.le
     replace ej:=ej.le gV.le;replace iZ:=iZ.le gV.le;replace dU:=dU.step gV (λb hb hk=>by have hk:_=_:=hk;have:=(dU.base b hb);omega);replace hM:=gV.lt hM;have:=S.size;replace S:=S.trans gV (λk hk h=>by have h:_=_:=h;subst h;first|(exfalso;omega)|(show _<=_;omega)|exact⟨by first|omega|assumption,(S.mem _ hk).1 ((gV.mem _ (ae dx)).1 dy)⟩|exact .inl rfl|exact .inr rfl|exact .inr (.inl rfl)|exact .inr (.inr rfl)|exact .inr (.inr (.inl rfl))|exact rfl);have jF:=Gh;clear dx;have dx:=jF;clear jF;refine ad (T.aO (aK (o':=1) bh G G uJ XT G G (aA bu G G G a00 G (eQ (vs:=[.string ⟨((fixF i x).1).toArray⟩,.string ⟨((fixF i x).2).toArray⟩]) cJ G ko G G G ew ?_))));refine fm (A:=RT.fd) (hn:=by decide) (M:=rn) bu ko XT G G hM (show RT.fd.V _ _ (fixF i x) _ from fR (mj.2 ⟨G,ep W0.1 XT⟩) (mj.2 ⟨G,ep W0.2 XT⟩) G G G G) (.inl G) (λWW aez gI gX=>?_);have:=ae g2;replace dY:=(gX.mem _ this).2 dY;replace g2:=gX.ay g2;have:=ae g3;replace fF:=(gX.mem _ this).2 fF;replace g3:=gX.ay g3;have:=ae ew;replace dG:=(gX.mem _ this).2 dG;replace ew:=gX.ay ew;have:=ae dx;replace dy:=(gX.mem _ this).2 dy;replace dx:=gX.ay dx;replace dB:=dB.le XT gX.le;replace ej:=ej.le gX.le;replace iZ:=iZ.le gX.le;replace dU:=dU.bD gX;replace hM:=gX.lt hM;have:=S.size;replace S:=S.av gX;refine dA (M:=rn) (base:=D8.heap.size) bu ko rfl rfl rfl rfl dU gI b4 a13 a13 (by have:=fE.size;have:=gV.size;have:=gX.size;omega) (λgJ mR aeA Jb iw=>?_);have:=ae g2;replace dY:=(iw.mem _ this).2 dY
     replace g2:=iw.bL g2 (λh=>by first|exact dU.eT g2 h|exact dU.fk g2 XT h|(have:=(dU.base _ h).1;omega));have:=ae g3;replace fF:=(iw.mem _ this).2 fF;replace g3:=iw.bL g3 (λh=>by first|exact dU.eT g3 h|exact dU.fk g3 XT h|(have:=(dU.base _ h).1;omega));have:=ae ew;replace dG:=(iw.mem _ this).2 dG;replace ew:=iw.bL ew (λh=>by first|exact dU.eT ew h|exact dU.fk ew XT h|(have:=(dU.base _ h).1;omega));have:=ae dx;replace dy:=(iw.mem _ this).2 dy;replace dx:=iw.bL dx (λh=>by first|exact dU.eT dx h|exact dU.fk dx XT h|(have:=(dU.base _ h).1;omega));replace dB:=dB.le XT iw.le;replace ej:=ej.le iw.le;replace iZ:=iZ.le iw.le;replace gI:=gI.le iw.le;replace hM:=iw.lt hM;have:=S.size;replace S:=S.eg iw dU P7;replace dU:=Jb;refine aK (o':=1) bh G G uJ XT G G ?_;refine ch (M:=mR) uJ rfl rfl dx rfl (af7) dy (λP9 Gi gY=>?_);change P9.heap[_]? =some (Obj.cells #[.int .i64 d.1,gJ] _ _)at Gi;have:=ae g2;replace dY:=(gY.mem _ this).2 dY;replace g2:=gY.bL g2 a05;have:=ae g3;replace fF:=(gY.mem _ this).2 fF;replace g3:=gY.bL g3 a05;have:=ae ew;replace dG:=(gY.mem _ this).2 dG;replace ew:=gY.bL ew a05;have:=ae dx;replace dy:=(gY.mem _ this).2 dy;replace dB:=dB.le XT gY.le;replace ej:=ej.le gY.le;replace iZ:=iZ.le gY.le;replace gI:=gI.le gY.le;replace dU:=dU.step gY (λb hb hk=>by have hk:_=_:=hk;have:=(dU.base b hb);omega);replace hM:=gY.lt hM;have:=S.size;replace S:=S.trans gY (λk hk h=>by have h:_=_:=h;subst h;first|(exfalso;omega)|(show _<=_;omega)|exact⟨by first|omega|assumption,(S.mem _ hk).1 ((gY.mem _ (ae dx)).1 dy)⟩|exact .inl rfl|exact .inr rfl|exact .inr (.inl rfl)|exact .inr (.inr rfl)|exact .inr (.inr (.inl rfl))|exact rfl)
     have jF:=Gi;clear dx;have dx:=jF;clear jF;refine ad (T.aO (eQ (vs:=[.int .i64 d.1,gJ]) bh G nr G G G dx ?_));have zj:=dU.view (hn:=by decide) a13;replace dY:rm mR gJ _:=⟨dY,by first|exact dU.fk g2 XT|(intro h;have:=(dU.base _ h).1;omega)⟩;replace fF:rm mR gJ _:=⟨fF,by first|exact dU.fk g3 XT|(intro h;have:=(dU.base _ h).1;omega)⟩;replace dG:rm mR gJ _:=⟨dG,by first|exact dU.fk ew XT|(intro h;have:=(dU.base _ h).1;omega)⟩;replace dy:rm mR gJ _:=⟨dy,by first|exact dU.fk dx XT|(intro h;have:=(dU.base _ h).1;omega)⟩;replace dB:=dB.le XT (uR _ gJ _);replace ej:=ej.le (uR _ gJ _);replace iZ:=iZ.le (uR _ gJ _);replace gI:=gI.le (uR _ gJ _);replace hM:Lt (rm mR gJ) _:=λb hb=>hM b hb.1
     replace S:=S.freeze (v:=gJ) (λb hb=>by have:=(dU.base b hb).1;omega);clear dU;refine aJ G G E29 (xC (d:=(d.1,[]++out++[fixF i x])) _ hM (fR (iG hdi) zj G G G G) (λy hy=>by have:=(Dz.snoc W0) y an7;omega)) (λr14 Oi hc=>?_);obtain⟨rfl,iO⟩:=hc;rw[kd]at zj;have:=ae g2;replace dY:=(iO.mem _ this).2 dY;replace g2:=iO.ay g2;have:=ae g3;replace fF:=(iO.mem _ this).2 fF;replace g3:=iO.ay g3;have:=ae ew;replace dG:=(iO.mem _ this).2 dG;replace ew:=iO.ay ew;have:=ae dx;replace dy:=(iO.mem _ this).2 dy;replace dx:=iO.ay dx;replace dB:=dB.le XT iO.le;replace ej:=ej.le iO.le;replace iZ:=iZ.le iO.le;replace gI:=gI.le iO.le;replace zj:=zj.le iO.le;replace hM:=iO.lt hM;have:=S.size;replace S:=S.av iO;refine gN G G G (aY (v':= .bool (decide (nt (d.1,out++[fixF i x])=0))) (by rw[kd]) (ad ?_));refine bI G (λMV=>?_) (λMV=>?_)
     ·refine aN (eQ (vs:=[.int .i64 d.1,gJ]) bh G nr G G G dx ?_);refine dX (M:=rm mR gJ) (vs:=[.int .i64 d.1,gJ]) nr G G a16 rfl rfl g3 fF (λalK Qa kb=>?_);have:=ae g2;replace dY:=(kb.mem _ this).2 dY;replace g2:=kb.bL g2 a05;have:=ae g3;replace fF:=(kb.mem _ this).2 fF;have:=ae ew;replace dG:=(kb.mem _ this).2 dG;replace ew:=kb.bL ew a05;have:=ae dx;replace dy:=(kb.mem _ this).2 dy;replace dx:=kb.bL dx a05;replace dB:=dB.le XT kb.le;replace ej:=ej.le kb.le;replace iZ:=iZ.le kb.le;replace gI:=gI.le kb.le;replace zj:=zj.le kb.le;replace hM:=kb.lt hM;have:=S.size;replace S:=S.trans kb (λk hk h=>by have h:_=_:=h;subst h;first|(exfalso;omega)|(show _<=_;omega)|exact⟨by first|omega|assumption,(S.mem _ hk).1 ((kb.mem _ (ae g3)).1 fF)⟩|exact .inl rfl|exact .inr rfl|exact .inr (.inl rfl)|exact .inr (.inr rfl)|exact .inr (.inr (.inl rfl))|exact rfl);have g3_:=Qa;clear g3;have g3:=g3_;clear g3_;refine ad (aN (ab G G (br G G G q0 (Rg.aZ G G ?_))));refine⟨G,(i+1,out++[fixF i x]),a34,?_,?_⟩
      ·exact⟨_,_,hM,S,dB,ej,g2,dY,g3,fF,zj,by rw[yA,hga,if_pos MV],by dsimp only;omega,by dsimp only;omega,Dz.snoc W0,by simp;omega⟩
      ·dsimp only;omega
     ·refine aR (aN (ab G G (br G G G q0 (Rg.aZ G G ?_))));refine⟨G,(i+1,out),a34,?_,?_⟩
      ·exact⟨_,_,hM,S,dB,ej,g2,dY,g3,fF,iZ,by rw[yA,hga,if_neg MV],by dsimp only;omega,by dsimp only;omega,Dz,by dsimp only;omega⟩
      ·dsimp only;omega
   ·refine cE (T.aO (eQ (vs:=[.int .i64 d.1,uo]) bh G nr G G G g3 ?_));refine dX (M:=M1) (vs:=[.int .i64 d.1,uo]) nr G G a16 rfl rfl g2 dY (λalL Qb pJ=>?_);have:=ae g2;replace dY:=(pJ.mem _ this).2 dY;have:=ae g3;replace fF:=(pJ.mem _ this).2 fF;replace g3:=pJ.bL g3 a05;replace dB:=dB.le XT pJ.le;replace ej:=ej.le pJ.le;replace iZ:=iZ.le pJ.le;replace hM:=pJ.lt hM;have:=S.size;replace S:=S.trans pJ (λk hk h=>by have h:_=_:=h;subst h;first|(exfalso;omega)|(show _<=_;omega)|exact⟨by first|omega|assumption,(S.mem _ hk).1 ((pJ.mem _ (ae g2)).1 dY)⟩|exact .inl rfl|exact .inr rfl|exact .inr (.inl rfl)|exact .inr (.inr rfl)|exact .inr (.inr (.inl rfl))|exact rfl);have Qd:=Qb;clear g2;have g2:=Qd;clear Qd;refine ad (aM ?_);have e:qd d=(d.1,out):=by rw[qd,yA,CX q0]
    rw[e];refine tT (vs:=[.int .i64 d.1,uo]) G G bh G nr G g2 ⟨fR (iG hdi) (iZ.le (ni iz S)) G G G G,S.back⟩
  ·refine ak G G G G (ak G G G G (aD G G G (ad (gy G (cE (T.aO (eQ (vs:=[.int .i64 d.1,uo]) bh G nr G G G g3 ?_)))))));refine dX (M:=M1) (vs:=[.int .i64 d.1,uo]) nr G G a16 rfl rfl g2 dY (λalL Qb pJ=>?_);have:=ae g2;replace dY:=(pJ.mem _ this).2 dY;have:=ae g3;replace fF:=(pJ.mem _ this).2 fF;replace g3:=pJ.bL g3 a05;replace dB:=dB.le XT pJ.le;replace ej:=ej.le pJ.le;replace iZ:=iZ.le pJ.le;replace hM:=pJ.lt hM;have:=S.size;replace S:=S.trans pJ (λk hk h=>by have h:_=_:=h;subst h;first|(exfalso;omega)|(show _<=_;omega)|exact⟨by first|omega|assumption,(S.mem _ hk).1 ((pJ.mem _ (ae g2)).1 dY)⟩|exact .inl rfl|exact .inr rfl|exact .inr (.inl rfl)|exact .inr (.inr rfl)|exact .inr (.inr (.inl rfl))|exact rfl);have Qd:=Qb;clear g2;have g2:=Qd;clear Qd;refine ad (aM ?_);have e:qd d=(d.1,out):=by rw[qd,yA,CX q0]
   rw[e];refine tT (vs:=[.int .i64 d.1,uo]) G G bh G nr G g2 ⟨fR (iG hdi) (iZ.le (ni iz S)) G G G G,S.back⟩
def eK (l:List Dc) (from_ step:Int):Nat->List En
 |0=>[]
 |k+1=>eK l from_ step k++(match l[k]? with|some d=>[(qd d,from_+step*(k:Int))]|none=>[])
theorem l8 (l:List Dc) (a s:Int):∀k,(eK l a s k).length=min k l.length
 |0=>by simp[eK]
 |k+1=>by
  rw[eK,bU,l8 l a s k]
  cases h:l[k]? with
  |none=>have:=List.getElem?_eq_none_iff.1 h;simp;omega
  |some d=>have:=(al.1 h).1;simp;omega
theorem AG {l:List Dc} {a s:Int} {k:Nat} {d:Dc} (h:l[k]? =some d):eK l a s (k+1)=eK l a s k++[(qd d,a+s*(k:Int))]:=by rw[eK,h]
theorem AH {l:List Dc} {a s:Int} {k:Nat} (h:l.length<=k):eK l a s (k+1)=eK l a s k:=by
 rw[eK,List.getElem?_eq_none_iff.2 h];simp
theorem Gj {l:List Dc} {a s:Int} {n i:Nat} (h:l.length<=i\/n<=i) (h1:i<=n):eK l a s i=eK l a s n:=by
 induction n with
 |zero=>have:i=0:=by omega
        rw[this]
 |succ n ih=>
  rcases qN h1 with e|eZ
  ·rw[e]
  ·rcases h with h|h
   ·rw[AH q0];exact ih (.inl h) q0
   ·omega
theorem UW {s k:Int} (h:0<=s/\s<=1000) (hk:0<=k/\k<=100):0<=s*k/\s*k<=100000:=
 ⟨Int.mul_nonneg h.1 hk.1,Int.le_trans (Int.mul_le_mul h.2 hk.2 hk.1 q0) q0⟩
theorem Jc {M:aE} {l:List Dc} {v0:Value} {most:Nat} {a s:Int} (w0:World) (hM:Lt M w0) (hv:(RT.dc.sl).V M w0 l v0) (hm:most<=100) (ha:0<=a/\a<=1000000) (hs:0<=s/\s<=1000):
  Spec Tryz.prog 10 #[v0,.int .i64 (most:Int),.int .i64 a,.int .i64 s] w0 (λv w=>(RT.en.sl).V M w (eK l a s most) v/\Step M w0 M w ar):=by
 have iz:=hM;refine aS (args:=[_,_,_,_]) (fn:=Tryz.f10) Tryz.func10 G (n:=37) Tryz.ntmps10 ?_;have S:Step M w0 M w0 ar:=aV;refine T.aO (Rg.aZ G G (T.aO (Rg.aZ G G (aI (T.aO (aB G G ?_))))));refine ad (aT ?_);refine cR (σ:=Nat×Value) (λq=>[(0,v0),(1,.int .i64 (most:Int)),(2,.int .i64 a),(3,.int .i64 s),(9,q.2),(10,.int .i64 (q.1:Int))]) (λq w=>∃M',Lt M' w/\Step M w0 M' w ar/\Own RT.en 74 M' w w0.heap.size q.2 (eK l a s q.1)/\(RT.dc.sl).V M' w l v0/\q.1<=most/\q.1<=l.length) (λq=>most-q.1) (0,.slice none 0 0) a14 ?_ ?_
 ·exact⟨M,hM,S,eE _ _ _ _ _,hv,bm _,bm _⟩
 ·rintro⟨i,u⟩ w ⟨M1,hM,S,ho,hv,hi,sk⟩;dsimp only at ho hi sk ⊢;refine aI (T.aO (ab G G (ab G G (bB Tryz.underlying22 G hv G (ck G G G (ab G G ?_))))));refine aW (g:=15) G (λiC=>?_) (λiC=>?_)
  ·refine ah G G (ab G G (ah G G (ab G G (ah G G (ck G G G (a8 G G G (ad ?_)))))));refine bI G (λc3=>?_) (λc3=>?_)
   ·refine aR (aI (aT (aN (ab G G (ab G G (ab G G ?_))))));refine cx Tryz.underlying22 nr G G G hv b4 q0 (λu5 d MG rS=>?_);rw[aq]at MG;have hsi:=UW (k:=(i:Int)) hs q0;refine bZ (A:=RT.dc) bh G nr XT G G G rS b4 (λv5 qK=>?_);refine aJ G G E47 (MR _ hM qK) (λr5 w5 hc=>?_);obtain⟨yA,s5⟩:=hc;replace hv:=hv.le s5.le;replace ho:=ho.bD s5;replace hM:=s5.lt hM;have:=S.size;replace S:=S.av s5;refine ab G G (ab G G (ab G G (Rg.X0 G G G q0 (br G G G q0 ?_))));obtain⟨uf,rfl⟩:=PN yA;refine dp (places:=[(0,2),(2,1)]) de CM B74 rfl ⟨_,_,rfl,rfl,_,_,rfl,rfl,rfl⟩ (out:=[_,_,_]) ⟨0,[_,_],rfl,rfl,by simp[Value.cells],2,[_],rfl,rfl,by simp[Value.cells],rfl⟩ ?_;refine fm (A:=RT.en) (hn:=by decide) (M:=M1) ef CM XT G G hM (show RT.en.V _ _ (qd d,a+s*(i:Int)) _ from WQ yA q0) (.inl G) (λaeC aeD uq tf=>?_);replace hv:=hv.le tf.le;replace yA:=yA.le tf.le;replace ho:=ho.bD tf;replace hM:=tf.lt hM;have:=S.size;replace S:=S.av tf;refine dA (M:=M1) (base:=w0.heap.size) ef CM G G G G ho uq b4 (by have:=l8 l a s i;simp;omega) (by have:=l8 l a s i;simp;omega) (S.size) (λQe Qf aeE Jd tg=>?_);replace hv:=hv.le tg.le;replace yA:=yA.le tg.le;replace uq:=uq.le tg.le;replace hM:=tg.lt hM;have:=S.size;replace S:=S.eg tg ho (aX _);replace ho:=Jd;refine Rg.aZ G G (aN (ab G G (br G G G q0 (Rg.aZ G G ?_))));refine⟨G,(i+1,Qe),a14,?_,?_⟩
    ·exact⟨Qf,hM,S,by rw[AG MG];exact ho,hv,by dsimp only;omega,by dsimp only;omega⟩
    ·dsimp only;omega
   ·refine cE (T.aO (ab G G (Rg.aZ G G (aM ?_))));rw[<-Gj (i:=i) (n:=most) q0 hi];exact aP G G ⟨ho.close iz S (by have:=l8 l a s i;omega),S.back⟩
  ·refine ak G G G G (ak G G G G (ak G G G G (aD G G G (ad (gy G (cE (T.aO (ab G G (Rg.aZ G G ?_)))))))));refine aM ?_;rw[<-Gj (i:=i) (n:=most) q0 hi];exact aP G G ⟨ho.close iz S (by have:=l8 l a s i;omega),S.back⟩
end Go.K
namespace Go.K
open Go.Maps (Keyed)
structure gx (P:Program) (kt:TypeId) (w:World) (b:Nat) (es:List MapEntry) (clock:Nat):Prop where
 at_:w.heap[b]? =some (.map es.toArray clock)
 born:es.Pairwise λx y=>x.born≠y.born
 lt:∀e∈es,e.born<clock
 keys:es.Pairwise λx y=>x.key≠y.key
 ok:∀e∈es,∃l,keyOf P kt e.key=some l
def eU (zv:Value) (es:List MapEntry) (key v:Value):Prop:=(∃e∈es,e.key=key/\v=e.val)\/((∀e∈es,e.key≠key)/\v=zv)
section
variable {P:Program} {kt:TypeId} {w:World} {b clock:Nat} {es:List MapEntry}
theorem gx.step {M M' N:aE} {w':World} (h:gx P kt w b es clock) (s:Step M w M' w' N) (hn: ¬N b):gx P kt w' b es clock:=⟨s.bL h.at_ hn,h.born,h.lt,h.keys,h.ok⟩
theorem gx.bD {M M':aE} {w':World} (h:gx P kt w b es clock) (s:Step M w M' w' ar):gx P kt w' b es clock:=h.step s λh=>h
theorem iL {α:Type} {R:α->α->Prop} {l:List α} (h:l.Pairwise R) {i j:Nat} {x y:α} (hi:l[i]? =some x) (hj:l[j]? =some y) (jt:i<j):R x y:=by
 obtain⟨h1,h2⟩:=al.1 hi;obtain⟨h3,h4⟩:=al.1 hj;have:=List.pairwise_iff_getElem.1 h i j h1 h3 jt
 rwa [h2,h4]at this
theorem gx.KY (h:gx P kt w b es clock) {x y:MapEntry} (hx:x∈es) (hy:y∈es) (e:x.key=y.key):x=y:=by
 obtain⟨i,hi⟩:=bG.1 hx;obtain⟨j,hj⟩:=bG.1 hy;rcases fh i j with h1|h1|h1
 ·exact absurd e (iL h.keys hi hj h1)
 ·subst h1;rw[hi]at hj;exact aF hj
 ·exact absurd e.symm (iL h.keys hj hi h1)
theorem gx.Gk (h:gx P kt w b es clock) {i j:Nat} {x y:MapEntry} (hi:es[i]? =some x) (hj:es[j]? =some y) (e:x.born=y.born):i=j:=by
 rcases fh i j with h1|h1|h1
 ·exact absurd e (iL h.born hi hj h1)
 ·exact h1
 ·exact absurd e.symm (iL h.born hj hi h1)
theorem gx.val_one (h:gx P kt w b es clock) {zv key v v':Value} (h1:eU zv es key v) (h2:eU zv es key v'):v=v':=by
 rcases h1 with⟨e,he,hk,hv⟩|⟨hn,hv⟩
 ·rcases h2 with⟨e',ru,qo,sM⟩|⟨W3,_⟩
  ·have:=h.KY he ru (hk.trans qo.symm);rw[hv,sM,this]
  ·exact absurd hk (W3 e he)
 ·rcases h2 with⟨e',ru,qo,_⟩|⟨_,sM⟩
  ·exact absurd qo (hn e' ru)
  ·rw[hv,sM]
theorem dM {r:Nat} {a:Array MapEntry} {c:Nat} (hb:w.heap[r]? =some (.map a c)):(getObj r).run P w= .ok (.map a c) w:=by simp[getObj,Sem.run,hb]
theorem run_setObj_map {r:Nat} {a:Array MapEntry} {c:Nat} {o:Obj} (hb:w.heap[r]? =some (.map a c)):(setObj r o).run P w= .ok () {w with heap:=w.heap.setIfInBounds r o}:=by simp[setObj,Sem.run,hb]
theorem gx.push (h:gx P kt w b es clock) {key v:Value} {kl:Lit} (j6:keyOf P kt key=some kl) (hn:∀e∈es,e.key≠key) {w':World} (hw:w'.heap[b]? =some (.map (es++([⟨key,v,clock⟩]:List MapEntry)).toArray (clock+1))):gx P kt w' b (es++[⟨key,v,clock⟩]) (clock+1):=
 ⟨hw,List.pairwise_append.2 ⟨h.born,List.pairwise_singleton _ _,λx hx y hy=>by rw[cO.1 hy];have:=h.lt x hx;show x.born≠clock;omega⟩,(λe he=>by
  rcases dN.1 he with he|he
  ·have:=h.lt e he;omega
  ·rw[cO.1 he];exact Nat.lt_succ_self _),List.pairwise_append.2 ⟨h.keys,List.pairwise_singleton _ _,λx hx y hy=>by rw[cO.1 hy];exact hn x hx⟩,(λe he=>by
  rcases dN.1 he with he|he
  ·exact h.ok e he
  ·rw[cO.1 he];exact⟨kl,j6⟩)⟩
theorem eU.push {zv key:Value} {s:Nat} (hn:∀e∈es,e.key≠key) (jG v':Value):eU zv (es++[⟨key,zv,s⟩]) jG v'↔eU zv es jG v':=by
 constructor
 ·rintro(⟨e,he,hk,hv⟩|⟨h1,h2⟩)
  ·rcases dN.1 he with he|he
   ·exact .inl ⟨e,he,hk,hv⟩
   ·rw[cO.1 he]at hk hv;exact .inr ⟨λe he=>by rw[<-hk];exact hn e he,hv⟩
  ·exact .inr ⟨λe he=>h1 e (nS _ he),h2⟩
 ·rintro(⟨e,he,hk,hv⟩|⟨h1,h2⟩)
  ·exact .inl ⟨e,nS _ he,hk,hv⟩
  ·by_cases hk:key=jG
   ·exact .inl ⟨⟨key,zv,s⟩,by simp,hk,h2⟩
   ·exact .inr ⟨λe he=>by
     rcases dN.1 he with he|he
     ·exact h1 e he
     ·rw[cO.1 he];exact hk,h2⟩
end
section
variable {P:Program} {r:Option Nat} {n:Nat} {L:Sl} {ds:List Deferred} {w:World} {K:Kt} {ops:Array Oper} {rest:List Oper} {d:Nat} {x y z:Operand} {ty:TypeId} {pos:String} {af:Array Edge}
variable {kt:TypeId} {M:aE} {b clock:Nat} {es:List MapEntry}
theorem Rg.AI {t e:TypeId} (M:aE) (ht:P.underlying t=some (.map kt e)) (hd:Nat.blt d n=true)
  (k:∀b w',w.heap.size<=b->b<w'.heap.size->gx P kt w' b [] 0->Step M w (ins M b) w' ar->Rg P r n ops rest ((d,.map (some b))::L) ds w' K):
  Rg P r n ops ({dst:=some d,op:= .makeMap t none,type:=ty,pos,after:=af,guard:=none}::rest) L ds w K:=by
 refine .op a06 G G hd (.map (some w.heap.size)) (w.alloc (.map #[] 0)) (λρ hρ=>?_) (k w.heap.size _ (aX _) (by simp) ⟨cY w _,List.Pairwise.nil,(λe he=>by cases he),List.Pairwise.nil,(λe he=>by cases he)⟩ ((dL M w _).own (aX _) (by simp)));simp only[execOp];simp[Instr.makeMap,newObj,Sem.run,run_underlying ht]
theorem Rg.mapEntry {t e:TypeId} {zv key:Value} {size bytes:Nat} {kl:Lit} (ht:P.underlying t=some (.map kt e)) (Kk:Keyed P kt) (hi:TI P e zv size bytes) (hx:ev L x=some (.map (some b))) (hy:ev L y=some key) (hd:Nat.blt d n=true) (j6:keyOf P kt key=some kl) (h:gx P kt w b es clock) (hm:M b)
  (k:∀w' qe Je v s,gx P kt w' b qe Je->eU zv es key v->(⟨key,v,s⟩:MapEntry)∈qe->(∀jG v',eU zv qe jG v'↔eU zv es jG v')->((qe.map (·.key)=es.map (·.key)/\∃e∈es,e.key=key)\/(qe.map (·.key)=es.map (·.key)++[key]/\∀e∈es,e.key≠key))->Step M w M w' (λk=>k=b)->Rg P r n ops rest ((d,.tuple #[v,.int .i64 (s:Nat)])::L) ds w' K):
  Rg P r n ops ({dst:=some d,op:= .mapEntry t x y,type:=ty,pos,after:=af,guard:=none}::rest) L ds w K:=by
 have eZ:=ae h.at_;rcases Kk.find w j6 es h.ok with⟨h1,h2⟩|⟨j,e0,h1,h2,h3⟩
 ·obtain⟨inf,i1,i2,_,_⟩:=hi.get;have hz:(zeroValue e).run P w= .ok zv w:=by simp[zeroValue,typeInfo,i1,i2]
  have hw:({w with heap:=w.heap.setIfInBounds b (.map (es.toArray.push ⟨key,zv,clock⟩) (clock+1))}:World).heap[b]? =some (.map (es++([⟨key,zv,clock⟩]:List MapEntry)).toArray (clock+1)):=by
   simp[dD,eZ]
  refine .op a06 G G hd _ _ (λρ hρ=>?_) (k _ _ _ zv clock (h.push j6 h2 hw) (Or.inr ⟨h2,G⟩) (by simp) (eU.push h2) (Or.inr ⟨by simp,h2⟩) (iU M hm));simp only[execOp,hρ x _ hx,hρ y _ hy,Instr.mapEntry,cB,run_underlying ht,cW,dM h.at_,Kk.check w false j6,h1,hz,run_setObj_map h.at_];simp[goInt]
 ·have he:e0∈es:=ax h2
  have Qg:es.toArray.modify j (λe=>{e with key:=key})=es.toArray:=by
   apply Array.ext_getElem?;intro i;rw[wN]
   split
   ·rename_i W4
    subst W4;simp only[fK,h2,dq];rw[<-h3]
   ·rfl
  have hw:({w with heap:=w.heap.setIfInBounds b (.map es.toArray clock)}:World).heap[b]? =some (.map es.toArray clock):=by simp[dD,eZ]
  have hj:es.toArray[j]? =some e0:=by simpa using h2
  have jV:(Instr.keyThatStays ((Option.map (fun(e:MapEntry)=>e.key) es.toArray[j]?).getD key) key).run P w= .ok key w:=by
   rw[hj];simp only[dq,ot,h3];exact Kk.stays w j6
  refine .op a06 G G hd _ _ (λρ hρ=>?_) (k _ es clock e0.val e0.born ⟨hw,h.born,h.lt,h.keys,h.ok⟩ (Or.inl ⟨e0,he,h3,rfl⟩) (by rw[<-h3];exact he) (λ_ _=>Iff.rfl) (Or.inl ⟨G,e0,he,h3⟩) (iU M hm));simp only[execOp,hρ x _ hx,hρ y _ hy,Instr.mapEntry,cB,run_underlying ht,cW,dM h.at_,Kk.check w false j6,h1,jV,Qg,run_setObj_map h.at_];simp[goInt,hj]
theorem Rg.entryStore {t:TypeId} {key v0 val:Value} {s:Nat} (hx:ev L x=some (.map (some b))) (hy:ev L y=some (.int .i64 (s:Int))) (hz:ev L z=some val) (h:gx P kt w b es clock) (hm:M b) (mL:(⟨key,v0,s⟩:MapEntry)∈es)
  (k:∀w' qe,gx P kt w' b qe clock->qe.map (·.key)=es.map (·.key)->(∀zv jG v',eU zv qe jG v'↔(jG=key/\v'=val)\/(jG≠key/\eU zv es jG v'))->Step M w M w' (λk=>k=b)->Rg P r n ops rest L ds w' K):
  Rg P r n ops ({dst:=none,op:= .entryStore t x y z,type:=ty,pos,after:=af,guard:=none}::rest) L ds w K:=by
 have eZ:=ae h.at_;obtain⟨i,hi⟩:=bG.1 mL;have sk:=(al.1 hi).1
 have alM:es.toArray.findIdx? (λe=>(e.born:Int)==(s:Int))=some i:=by
  rw[List.findIdx?_toArray,List.findIdx?_eq_some_iff_getElem];refine⟨sk,by rw[(al.1 hi).2];simp,λj hj=>?_⟩;have qn:j<es.length:=by omega
  have:=λe=>h.Gk (an qn) hi e
  simp only[Bool.not_eq_true,beq_eq_false_iff_ne,ne_eq];intro e;have e2:((es[j]).born:Int)=(s:Int):=by simpa using e
  have:=this (by show(es[j]).born=s;omega);omega
 obtain⟨qe,xF⟩:∃qe,qe=es.set i ⟨key,val,s⟩:=⟨_,rfl⟩
 have Qg:es.toArray.modify i (λe=>{e with val:=val})=qe.toArray:=by
  apply Array.ext_getElem?;intro j;rw[wN,xF];simp only[fK,fi]
  split
  ·rename_i W4
   subst W4;rw[hi];simp
  ·rfl
 have jb:∀j e',qe[j]? =some e'→(j=i/\e'=⟨key,val,s⟩)\/(j≠i/\es[j]? =some e'):=λj e' hj=>by
  rw[xF,fi]at hj
  split at hj
  ·rename_i jt
   left;exact⟨jt.symm,by simpa[sk]using hj.symm⟩
  ·rename_i jt
   exact .inr ⟨λe=>jt e.symm,hj⟩
 have qf:qe.map (·.key)=es.map (·.key):=by
  rw[xF,List.map_set];apply kn;intro j;rw[fi]
  split
  ·rename_i jt
   subst jt;have e:=(al.1 hi).2;simp[sk,e]
  ·rfl
 have Qh:qe.map (·.born)=es.map (·.born):=by
  rw[xF,List.map_set];apply kn;intro j;rw[fi]
  split
  ·rename_i jt
   subst jt;have e:=(al.1 hi).2;simp[sk,e]
  ·rfl
 have hw:({w with heap:=w.heap.setIfInBounds b (.map qe.toArray clock)}:World).heap[b]? =some (.map qe.toArray clock):=by simp[dD,eZ]
 have ir:∀e'∈qe,(e'=⟨key,val,s⟩)\/(e'∈es/\e'.key≠key):=λe' ru=>by
  obtain⟨j,hj⟩:=bG.1 ru;rcases jb j e' hj with⟨_,e⟩|⟨fw,wR⟩
  ·exact .inl e
  ·refine .inr ⟨ax wR,λe=>fw ?_⟩;rcases fh j i with h1|h1|h1
   ·exact absurd e (iL h.keys wR hi h1)
   ·exact h1
   ·exact absurd e.symm (iL h.keys hi wR h1)
 have Qi:(⟨key,val,s⟩:MapEntry)∈qe:=ax (i:=i) (by rw[xF,fi];simp[sk])
 have hold:∀e'∈es,e'.key≠key->e'∈qe:=λe' ru fw=>by
  obtain⟨j,hj⟩:=bG.1 ru;refine ax (i:=j) ?_;rw[xF,fi,if_neg]
  ·exact hj
  ·rintro rfl;rw[hi]at hj;cases hj;exact fw G
 have hW:gx P kt {w with heap:=w.heap.setIfInBounds b (.map qe.toArray clock)} b qe clock:=by
  refine⟨hw,?_,λe' ru=>?_,?_,λe' ru=>?_⟩
  ·have:=eu.2 h.born;rw[<-Qh]at this;exact eu.1 this
  ·rcases ir e' ru with e|⟨h1,_⟩
   ·rw[e];exact(h.lt _ mL:s<clock)
   ·exact h.lt _ h1
  ·have:=eu.2 h.keys;rw[<-qf]at this;exact eu.1 this
  ·rcases ir e' ru with e|⟨h1,_⟩
   ·rw[e];exact(h.ok _ mL:∃l,keyOf P kt key=some l)
   ·exact h.ok _ h1
 refine .Wn a06 G G _ (λρ hρ=>?_) (k _ qe hW qf (λzv jG v'=>?_) (iU M hm))
 ·simp only[execOp,hρ x _ hx,hρ y _ hy,hρ z _ hz,Instr.entryStore,cB,dM h.at_,cW,asInt,asIntOf,nc,alM,Qg,run_setObj_map h.at_]
 ·constructor
  ·rintro(⟨e',ru,hk,hv⟩|⟨h1,h2⟩)
   ·rcases ir e' ru with e|⟨h3,h4⟩
    ·subst e;exact .inl ⟨hk.symm,hv⟩
    ·exact .inr ⟨by rw[<-hk];exact h4,.inl ⟨e',h3,hk,hv⟩⟩
   ·have fw:jG≠key:=λe=>h1 _ Qi e.symm
    exact .inr ⟨fw,.inr ⟨λe' ru=>λe=>by
     by_cases h5:e'.key=key
     ·exact fw (e.symm.trans h5)
     ·exact h1 e' (hold e' ru h5) e,h2⟩⟩
  ·rintro(⟨rfl,rfl⟩|⟨fw,⟨e',ru,hk,hv⟩|⟨h1,h2⟩⟩)
   ·exact .inl ⟨_,Qi,G,G⟩
   ·exact .inl ⟨e',hold e' ru (by rw[hk];exact fw),hk,hv⟩
   ·exact .inr ⟨λe' ru=>by
     rcases ir e' ru with e|⟨h3,_⟩
     ·rw[e];exact λe=>fw e.symm
     ·exact h1 e' h3,h2⟩
theorem Rg.vG {t e:TypeId} {zv key:Value} {size bytes:Nat} {kl:Lit} (ht:P.underlying t=some (.map kt e)) (Kk:Keyed P kt) (hi:TI P e zv size bytes) (hx:ev L x=some (.map (some b))) (hy:ev L y=some key) (hd:Nat.blt d n=true) (j6:keyOf P kt key=some kl) (h:gx P kt w b es clock)
  (k:∀v,eU zv es key v->Rg P r n ops rest ((d,v)::L) ds w K):
  Rg P r n ops ({dst:=some d,op:= .lookup t x y false,type:=ty,pos,after:=af,guard:=none}::rest) L ds w K:=by
 rcases Kk.find w j6 es h.ok with⟨h1,h2⟩|⟨j,e0,h1,h2,h3⟩
 ·obtain⟨inf,i1,i2,_,_⟩:=hi.get;have hz:(zeroValue e).run P w= .ok zv w:=by simp[zeroValue,typeInfo,i1,i2]
  refine .op a06 G G hd zv w (λρ hρ=>?_) (k zv (Or.inr ⟨h2,G⟩));simp only[execOp,hρ x _ hx,hρ y _ hy,Instr.lookup,cB,run_underlying ht,cW,dM h.at_,nc,Kk.check w _ j6,h1,hz];simp
 ·refine .op a06 G G hd e0.val w (λρ hρ=>?_) (k e0.val (Or.inl ⟨e0,ax h2,h3,G⟩));simp only[execOp,hρ x _ hx,hρ y _ hy,Instr.lookup,cB,run_underlying ht,cW,dM h.at_,nc,Kk.check w _ j6,h1];simp
end
end Go.K
namespace Go.K
open Go.Proofs
set_option maxRecDepth 10000
open Go.Maps (Keyed)
def kv (t:Fd):Value:= .agg #[.string ⟨t.1.toArray⟩,.string ⟨t.2.toArray⟩]
theorem xG {a b:Fd} (h:kv a=kv b):a=b:=by
 unfold kv at h;simp only[Value.agg.injEq,Array.mk.injEq,zu,Value.string.injEq,ByteArray.mk.injEq,and_true]at h;exact Prod.ext h.1 h.2
theorem Qj:laidOutB Tryz.prog=true:=by kernel_rfl
theorem Qk:Tryz.prog.types.size=419:=by kernel_rfl
theorem CY:Keyed Tryz.prog 24:=Keyed.of_law (deep_law_laid Qj (m:=2) (k:=24) q0 (by rw[Qk];decide) (by kernel_rfl) (by kernel_rfl))
theorem aeF:Tryz.prog.keyType 24=true:=by kernel_rfl
theorem KZ:Tryz.prog.cellsOf 24=2:=by kernel_rfl
theorem UX:Tryz.prog.cellsOf 9=1:=by kernel_rfl
theorem Ql (t:Fd) (h1:t.1.length<=140737488355328) (h2:t.2.length<=140737488355328):∃l,keyOf Tryz.prog 24 (kv t)=some l:=by
 have e1:(⟨t.1.toArray⟩:ByteArray).size=t.1.length:=by simp[ByteArray.size]
 have e2:(⟨t.2.toArray⟩:ByteArray).size=t.2.length:=by simp[ByteArray.size]
 have hs:∀(s:ByteArray),s.size<=maxLen->Tryz.prog.keyLits 419 9 [.string s]=some [.string s.data.toList]:=λs hs=>by
  show(match Tryz.prog.underlying 9,[Value.string s]with|_,_=>_)=_;rw[aG];exact if_pos hs
 unfold keyOf kv;rw[bR];simp only[aeF,Value.formed,bR,KZ,Qk]
 have key:∃ls,Tryz.prog.keyLits (419+1) 24 [.string ⟨t.1.toArray⟩,.string ⟨t.2.toArray⟩]=some ls:=by
  unfold Program.keyLits;simp only[bR];rw[if_pos ⟨by rw[KZ];rfl,by kernel_rfl⟩];simp only[List.mapM_cons,List.mapM_nil,UX];have g1:=hs ⟨t.1.toArray⟩ (by rw[e1];unfold maxLen;omega);have g2:=hs ⟨t.2.toArray⟩ (by rw[e2];unfold maxLen;omega);refine ⟨[.string (⟨t.1.toArray⟩:ByteArray).data.toList,.string (⟨t.2.toArray⟩:ByteArray).data.toList],?_⟩;simp only[List.drop_zero,List.drop_succ_cons,List.take_succ_cons,List.take_zero,g1,g2];rfl
 obtain⟨ls,Oj⟩:=key;exact⟨.string (keyBytes ls),by rw[if_pos (by simp)];show Option.map _ (Tryz.prog.keyLits (419+1) 24 [.string ⟨t.1.toArray⟩,.string ⟨t.2.toArray⟩])=_;rw[Oj];rfl⟩
end Go.K
namespace Go.K
open Go.Proofs
set_option maxRecDepth 10000
def hY (x:Fd):List (Fd×Nat):=(words x.2).zipIdx.map λp=>((x.1,p.1),p.2)
def cF (l:List Fd):List (Fd×Nat):=l.flatMap hY
theorem oW (x:Fd):(hY x).length=(words x.2).length:=by simp[hY]
theorem Qm {x:Fd} {k:Nat} {y:List UInt8} (h:(words x.2)[k]? =some y):(hY x)[k]? =some ((x.1,y),k):=by
 simp[hY,List.getElem?_zipIdx,h]
theorem ur {fs:List Fd} {i:Nat} {x:Fd} (h:fs[i]? =some x):cF (fs.take (i+1))=cF (fs.take i)++hY x:=by
 rw[bQ,h];simp[cF]
structure ZB (P:Program) (g:FuncId) (cap:List Value) (B:Nat) (J:List (Fd×Nat)->aE->World->Prop):Prop where
 enters:Enters P g
 step:∀ts M w M' w',J ts M w->Step M w M' w' ar->J ts M' w'
 tell:∀ts M w (t:Fd) (i:Nat),J ts M w->Lt M w->t.1.length<=900000->t.2.length<=140737488355328->i<=1000000->ts.length<=10000000->Spec P g ([kv t,.int .i64 (i:Int)]++cap).toArray w (λ_ w'=>∃M',Lt M' w'∧J (ts++[(t,i)]) M' w'∧Step M w M' w' (lX M B))
theorem CZ {M:aE} {d:Dc} {v0:Value} {g:FuncId} {cap:List Value} {B:Nat} {J:List (Fd×Nat)->aE->World->Prop} (w0:World) (hM:Lt M w0) (hv:RT.dc.V M w0 d v0) (hl:∀f∈d.2,f.1.length<=900000/\f.2.length<=900000) (hd8:d.2.length<=8) (hT:ZB Tryz.prog g cap B J) (hJ:J [] M w0):
  Spec Tryz.prog 142 #[v0,.func (.func g) #[] cap.toArray] w0 (λv w=>∃M',Lt M' w/\J (cF d.2) M' w/\Step M w0 M' w (lX M B)):=by
 refine aS (args:=[_,_]) (fn:=Tryz.f142) Tryz.func142 G (n:=33) Tryz.ntmps142 ?_;have S:Step M w0 M w0 (lX M B):=(aV).dF a15 (λ_ h=>h.2);refine T.aO ?_;refine Rg.iI (A:=RT.dc) G G hM hv G (λu0 w1 dB s0 _=>?_);replace hJ:=hT.step _ _ _ _ _ hJ s0;replace hM:=s0.lt hM;have:=S.size;replace S:=S.av s0;refine ad (T.aO ?_);refine au (M:=M) (A:=RT.dc) (B:=(RT.fd).sl) bh G G uJ XT (H8) G G XT a00 (by repeat (first|exact bN _ _|refine bp (bO a00) ?_)) (λB5 lQ=>?_);refine bM (M:=M) bu G G G G G a00 (by repeat (first|exact bN _ _|refine bp (bO a00) ?_)) (λAA mP=>?_);refine bB bu G mP G (ab G G (ad (aT ?_)));refine cR (σ:=Nat) (λi=>[(1,.func (.func g) #[] cap.toArray),(9,AA),(10,.int .i64 (d.2.length:Int)),(11,.int .i64 (i:Int))]) (λi w=>∃M',Lt M' w/\Step M w0 M' w (lX M B)/\(RT.fd.sl).V M' w d.2 AA/\J (cF (d.2.take i)) M' w/\i<=d.2.length/\(cF (d.2.take i)).length<=900001*i) (λi=>d.2.length-i) 0 a01 ?_ ?_
 ·exact⟨_,hM,S,mP,hJ,bm _,aX _⟩
 ·rintro i w ⟨M1,hM,S,oe,hJ,hi,yn⟩;refine T.aO (ck G G G (ad (aI ?_)));refine bI G (λc2=>?_) (λc2=>?_)
  ·refine aR (aI (aT (T.aO ?_)));refine cx bu ko G G G oe b4 q0 (λu3 x ZC lE=>?_);rw[aq]at ZC;have BR:=hl _ (ax ZC);refine bZ (A:=RT.fd) cJ G ko XT G G G lE b4 (λv3 xH=>?_);refine jR (A:=RT.fd) (M:=M1) ko G G G G G a00 b4 hM (λUY avp AJ UZ avq=>?_);replace oe:=oe.le UZ.le;replace hJ:=hT.step _ _ _ _ _ hJ UZ;replace hM:=UZ.lt hM;have:=S.size;replace S:=S.av UZ;refine ad (T.aO ?_);refine au (M:=M1) (A:=RT.fd) (B:=RT.str) cJ G G I9 XT (Zk) G G XT a00 (by repeat (first|exact bN _ _|refine bp (bO a00) ?_)) (λMP td=>?_);refine bM aG G G G G G td b4 (λv4 qb=>?_);obtain rfl:=eJ qb;refine aJ G G YA (Av (l:=x.2) _ hM BR.2) (λv5 w5 hc=>?_);obtain⟨hws,s5⟩:=hc;replace oe:=oe.le s5.le;replace AJ:=AJ.le XT s5.le;replace hJ:=hT.step _ _ _ _ _ hJ s5;replace hM:=s5.lt hM;have:=S.size;replace S:=S.av s5;have WT:=l6 x.2;refine bB aQ G hws G (ab G G (ad (aT ?_)));refine cR (σ:=Nat) (λk=>[(1,.func (.func g) #[] cap.toArray),(5,UY),(9,AA),(10,.int .i64 (d.2.length:Int)),(11,.int .i64 (i:Int)),(17,v5),(18,.int .i64 ((words x.2).length:Int)),(19,.int .i64 (k:Int))]) (λk w=>∃M',Lt M' w/\Step M w0 M' w (lX M B)/\(RT.fd.sl).V M' w d.2 AA/\cG RT.fd M' w UY x/\(RT.str.sl).V M' w (words x.2) v5/\J (cF (d.2.take i)++(hY x).take k) M' w/\k<=(words x.2).length) (λk=>(words x.2).length-k) 0 (.cons G a81) ?_ ?_
   ·exact⟨_,hM,S,oe,AJ,hws,by rw[List.take_zero,fS];exact hJ,bm _⟩
   ·rintro k w ⟨M2,hM,S,oe,AJ,hws,hJ,hk⟩;refine T.aO (ck G G G (ad (aI ?_)));refine bI G (λc5=>?_) (λc5=>?_)
    ·refine aR (aI (aT (T.aO (ab G G ?_))));refine cx aQ I9 G G G hws b4 q0 (λu6 y H6 ue=>?_);rw[aq]at H6;refine bM aG G G G G G ue b4 (λv6 oR=>?_);have hyl:=(mj.1 oR).2;obtain rfl:=eJ oR;refine aB G G (Rg.aZ G G (aN (ab G G ?_)));refine au (M:=M2) (A:=RT.fd) (B:=RT.str) cJ G G I9 XT (MM) G G XT a00 (by repeat (first|exact bN _ _|refine bp (bO a00) ?_)) (λavr aeH=>?_);refine bM aG G G G G G aeH b4 (λv7 Jf=>?_);obtain rfl:=eJ Jf;refine ab rfl rfl (dp (places:=[(0,1),(1,1)]) bR nE B24 rfl ⟨_,_,rfl,rfl,_,_,rfl,rfl,rfl⟩ (out:=[_,_]) ⟨0,[_],rfl,rfl,by simp[Value.cells],1,[_],rfl,rfl,by simp[Value.cells],rfl⟩ (ab rfl rfl ?_));refine ng (first:=[]) (captured:=cap) (xs:=[.tmp 28,.tmp 29]) G G G hT.enters (hT.tell _ _ _ (x.1,y) k hJ hM BR.1 hyl q0 (by rw[bU,bF,oW];omega)) (λr7 w7 hc=>?_);obtain⟨M7,hM7,hJ7,s7⟩:=hc;refine ad (aN (br G G G q0 (ab G G (ad ?_))));refine⟨G,k+1,(.cons G a81),?_,?_⟩
     ·exact⟨M7,hM7,S.trans s7 (λb hb h=>⟨h.1,(S.mem b hb).1 h.2⟩),oe.le s7.le,AJ.le XT s7.le,hws.le s7.le,by rw[bQ,Qm H6,cH,<-mZ];exact hJ7,by omega⟩
     ·omega
    ·refine cE (aN (br G G G q0 (ab G G (ad ?_))));refine⟨G,i+1,a01,?_,?_⟩
     ·exact⟨_,hM,S,oe,by rw[ur ZC];have e:(hY x).take k=hY x:=bg (by rw[oW];omega);rw[e]at hJ;exact hJ,by omega,by rw[ur ZC,bU,oW];omega⟩
     ·omega
  ·refine cE ?_
   first|refine iA.nil ?_|simp+decide only[wY,mi,if_true,if_false]|skip
   have e:d.2.take i=d.2:=bg q0;rw[e]at hJ;exact jB G ⟨_,hM,hJ,S⟩
theorem D9 {M:aE} {w:World} {t:Fd} (h1:t.1.length<=140737488355328) (h2:t.2.length<=140737488355328):RT.fd.V M w t (kv t):=fR (mj.2 ⟨rfl,h1⟩) (mj.2 ⟨rfl,h2⟩) rfl rfl rfl rfl
def WJ (b B:Nat) (ts:List (Fd×Nat)) (M:aE) (w:World):Prop:=w.heap[b]? =some (.cells #[.int .i64 (ts.length:Int)] 3 (0,0))/\M b/\B<=b
theorem Ea {M:aE} {b B:Nat} {ts:List (Fd×Nat)} {t:Fd} {i:Nat} (w0:World) (hM:Lt M w0) (h1:t.1.length<=900000) (h2:t.2.length<=140737488355328) (OT:ts.length<=10000000) (hJ:WJ b B ts M w0):
  Spec Tryz.prog 149 #[kv t,.int .i64 (i:Int),.pointer (some ⟨b,0,none⟩)] w0 (λv w=>∃M',Lt M' w/\WJ b B (ts++[(t,i)]) M' w/\Step M w0 M' w (lX M B)):=by
 obtain⟨gb,eI,hB⟩:=hJ;refine aS (args:=[_,_,_]) (fn:=Tryz.f149) Tryz.func149 G (n:=7) Tryz.ntmps149 ?_;have S:Step M w0 M w0 (lX M B):=(aV).dF a15 (λ_ h=>h.2);refine T.aO ?_;refine Rg.iI (A:=RT.fd) G G hM (D9 q0 h2) G (λu0 w1 dB s0 _=>?_);have:=ae gb;replace eI:=(s0.mem _ this).2 eI;replace gb:=s0.ay gb;replace hM:=s0.lt hM;have:=S.size;replace S:=S.av s0;refine ad (aN (aA aj G G G a00 G (br G G G q0 ?_)));refine ch (M:=M) I3 G G gb G (G) eI (λFL gT kP=>?_);change FL.heap[_]? =some (Obj.cells #[.int .i64 ((ts.length:Int)+1)] _ _)at gT;have:=ae gb;replace eI:=(kP.mem _ this).2 eI;replace hM:=kP.lt hM;have:=S.size;replace S:=S.trans kP (λk hk h=>by have h:_=_:=h;subst h;first|(exfalso;omega)|(show _<=_;omega)|exact⟨by first|omega|assumption,(S.mem _ hk).1 ((kP.mem _ (ae gb)).1 eI)⟩|exact .inl rfl|exact .inr rfl|exact .inr (.inl rfl)|exact .inr (.inr rfl)|exact .inr (.inr (.inl rfl))|exact rfl);have Qn:=gT;clear gb;have gb:=Qn;clear Qn;refine ad ?_
 first|refine iA.nil ?_|simp+decide only[wY,mi,if_true,if_false]|skip
 exact jB rfl ⟨_,hM,⟨by rw[bU];exact gb,eI,hB⟩,S⟩
theorem Gl {b B:Nat}:ZB Tryz.prog 149 [.pointer (some ⟨b,0,none⟩)] B (WJ b B):=
 ⟨aka,λts M w M' w' ⟨h1,h2,h3⟩ s=>⟨s.ay h1,(s.mem _ (ae h1)).2 h2,h3⟩,λts M w t i hJ hM h1 h2 _ h4=>Ea w hM h1 h2 h4 hJ⟩
theorem Gm {M:aE} {d:Dc} {v0:Value} (w0:World) (hM:Lt M w0) (hv:RT.dc.V M w0 d v0) (hl:∀f∈d.2,f.1.length<=900000/\f.2.length<=900000) (hd8:d.2.length<=8):
  Spec Tryz.prog 97 #[v0] w0 (λv w=>v= .int .i64 ((cF d.2).length:Int)/\Step M w0 M w ar):=by
 refine aS (args:=[_]) (fn:=Tryz.f97) Tryz.func97 G (n:=8) Tryz.ntmps97 ?_;have S:Step M w0 M w0 ar:=aV;refine T.aO ?_;refine Rg.iI (A:=RT.dc) G G hM hv G (λu0 w1 dB s0 _=>?_);replace hM:=s0.lt hM;have:=S.size;replace S:=S.av s0;refine Rg.aZ G G (T.aO ?_);refine ek M I3 G (λxz UQ alm aln pI yS=>?_);obtain⟨CW,Ar⟩:∃M',M'=ins M xz:=⟨_,rfl⟩;rw[<-Ar]at yS;have mN:CW xz:=by rw[Ar];exact .inl G
 change UQ.heap[xz]? =some (.cells #[.int .i64 0] _ _)at pI;replace dB:=dB.le XT yS.le;replace hM:=yS.lt hM;have:=S.size;replace S:=S.av yS;refine ch (M:=CW) I3 G G pI G (G) mN (λZD B6 yU=>?_);change ZD.heap[_]? =some (Obj.cells #[.int .i64 0] _ _)at B6;have:=ae pI;replace mN:=(yU.mem _ this).2 mN;replace dB:=dB.le XT yU.le;replace hM:=yU.lt hM;have:=S.size;replace S:=S.trans yU (λk hk h=>by have h:_=_:=h;subst h;first|(exfalso;omega)|(show _<=_;omega)|exact⟨by first|omega|assumption,(S.mem _ hk).1 ((yU.mem _ (ae pI)).1 mN)⟩|exact .inl rfl|exact .inr rfl|exact .inr (.inl rfl)|exact .inr (.inr rfl)|exact .inr (.inr (.inl rfl))|exact rfl);have W5:=B6;clear pI;have pI:=W5;clear W5;refine ad (T.aO ?_);refine bZ (A:=RT.dc) bh G nr XT G G G dB b4 (λv2 E5=>?_);refine gz (xs:=[]) (ys:=[.tmp 3]) G G G ?_;refine aJ G G adx (CZ (cap:=[.pointer (some ⟨xz,0,none⟩)]) (B:=w0.heap.size) _ hM E5 hl hd8 Gl ⟨pI,mN,by omega⟩) (λr2 w2 hc=>?_);obtain⟨M2,Og,⟨g2,_,_⟩,s2⟩:=hc;replace S:=S.mv s2 (aX _);refine ad (T.aO (aA aj G G G g2 G (Rg.aZ G G (aM ?_))));exact aP G G ⟨G,S.back⟩
section
variable {P:Program} {r:Option Nat} {n:Nat} {L:Sl} {ds:List Deferred} {w:World} {K:Kt} {ops:Array Oper} {rest:List Oper} {d:Nat} {x y z:Operand} {ty:TypeId} {pos:String} {af:Array Edge}
variable {kt:TypeId} {M:aE} {b mb clock:Nat} {es:List MapEntry} {sn:Array Nat}
theorem Rg.rangeMap {t e:TypeId} (M:aE) (ht:P.underlying t=some (.map kt e)) (hx:ev L x=some (.map (some mb))) (hd:Nat.blt d n=true) (h:gx P kt w mb es clock)
  (k:∀b w',w.heap.size<=b->b<w'.heap.size->w'.heap[b]? =some (.mapIter (some mb) clock #[] clock)->Step M w (ins M b) w' ar->Rg P r n ops rest ((d,.pointer (some ⟨b,0,none⟩))::L) ds w' K):
  Rg P r n ops ({dst:=some d,op:= .range t x,type:=ty,pos,after:=af,guard:=none}::rest) L ds w K:=by
 refine .op a06 G G hd (.pointer (some ⟨w.heap.size,0,none⟩)) (w.alloc (.mapIter (some mb) clock #[] clock)) (λρ hρ=>?_) (k w.heap.size _ (aX _) (by simp) (cY w _) ((dL M w _).own (aX _) (by simp)));simp only[execOp,hρ x _ hx];simp[Instr.range,cB,run_underlying ht,dM h.at_,newObj,Sem.run]
theorem qg {sb:Option Nat} {s c:Nat} (hb:w.heap[b]? =some (.mapIter sb s sn c)):(getObj b).run P w= .ok (.mapIter sb s sn c) w:=by simp[getObj,Sem.run,hb]
theorem Jg (h:gx P kt w mb es clock) (seen:Array Nat):(!seen.isEmpty&& !es.toArray.isEmpty&&es.toArray.all (λx=>decide (x.born>=clock)))=false:=by
 cases es with
 |nil=>simp
 |cons e l=>
  have:=h.lt e (by simp);simp only[Bool.and_eq_false_iff];right;rw[fj];intro h2;rw[Array.all_eq_true_iff_forall_mem]at h2;have:=h2 e (by simp);simp at this;omega
theorem Gn (k:Nat) (hk:0<k):∃j w1,j<k/\(∀M,Step M w M w1 ar)/\w1.heap=w.heap/\(choose (Question.mapNext k)).run P w= .ok j w1:=by
 by_cases hf:k<=1
 ·exact⟨0,w,hk,λM=>Step.refl M w,rfl,by simp[choose,Sem.run,Question.forced,hf]⟩
 ·exact⟨_,w.drew,Nat.mod_lt _ hk,λM=>oA M w,G,by
   simp only[choose,Sem.run,Question.forced,decide_eq_true_eq,hf,if_false,Question.cut];rfl⟩
theorem Qo (h:gx P kt w mb es clock) (hb:w.heap[b]? =some (.mapIter (some mb) clock sn clock)) (hm:M b):
  ((∀e∈es,e.born∈sn)/\(Instr.next (.pointer (some ⟨b,0,none⟩)) false ty).run P w= .ok (.tuple #[.bool false]) w)\/
  ∃e w',e∈es/\e.born∉sn/\w'.heap[b]? =some (.mapIter (some mb) clock (sn.push e.born) clock)/\Step M w M w' (λk=>k=b)/\(Instr.next (.pointer (some ⟨b,0,none⟩)) false ty).run P w= .ok (.tuple #[.bool true,e.key,e.val]) w':=by
 have eZ:=ae hb;simp only[Instr.next,cB,qg hb,cW,dM h.at_,Jg h sn,Bool.false_eq_true,if_false];have hL:∀e∈es.toArray.filter (λe=> !sn.contains e.born),e.born<clock:=λe he=>h.lt e (by simpa using(Array.mem_filter.1 he).1)
 have mL:∀e,e∈es.toArray.filter (λe=> !sn.contains e.born)↔e∈es/\e.born∉sn:=λe=>by simp[Array.mem_filter]
 generalize es.toArray.filter (λe=> !sn.contains e.born)=Lf at hL mL ⊢;have e1:Lf.filter (λx=>decide (x.born<clock))=Lf:=Array.filter_eq_self.2 λx hx=>by simpa using hL x hx
 have e2:Lf.filter (λx=>decide (x.born>=clock))= #[]:=by
  rw[Array.filter_eq_empty_iff];intro x hx;have:=hL x hx;simp;omega
 simp only[e1,e2,Array.append_empty];by_cases h0:Lf.size=0
 ·left;have tM:Lf= #[]:=Array.eq_empty_of_size_eq_zero h0;subst tM;refine⟨λe he=>?_,by simp[choose,Sem.run,Question.forced]⟩;by_cases hs:e.born∈sn
  ·exact hs
  ·exact absurd ((mL e).2 ⟨he,hs⟩) (by simp)
 ·right;have fw:Lf.isEmpty=false:=by simp[Array.isEmpty,h0]
  simp only[fw,Bool.false_eq_true,if_false,Array.empty_append,Array.size_map];obtain⟨j,w1,hj,yN,hh1,gO⟩:=Gn (P:=P) (w:=w) Lf.size q0;have ua:w1.heap[b]? =some (.mapIter (some mb) clock sn clock):=by rw[hh1];exact hb
  have ir:=(mL Lf[j]).1 (by simp);refine⟨Lf[j],{w1 with heap:=w1.heap.setIfInBounds b (.mapIter (some mb) clock (sn.push Lf[j].born) clock)},ir.1,ir.2,by simp[dD,hh1,eZ],?_,?_⟩
  ·exact((yN M).dF a15 (λk hk=>by subst hk;exact hm)).trans (iU M hm) (λ_ _ h=>h)
  ·simp only[gO,cW,Array.getElem?_map,Array.getElem?_eq_getElem hj,dq,cB];simp[setObj,Sem.run,ua]
theorem Rg.U0 (hx:ev L x=some (.pointer (some ⟨b,0,none⟩))) (hb:w.heap[b]? =some (.mapIter (some mb) clock sn clock)) (hm:M b) (h:gx P kt w mb es clock) (hd:Nat.blt d n=true)
  (k1:∀e w',e∈es->e.born∉sn->w'.heap[b]? =some (.mapIter (some mb) clock (sn.push e.born) clock)->Step M w M w' (λk=>k=b)->Rg P r n ops rest ((d,.tuple #[.bool true,e.key,e.val])::L) ds w' K)
  (k2:(∀e∈es,e.born∈sn)->Rg P r n ops rest ((d,.tuple #[.bool false])::L) ds w K):
  Rg P r n ops ({dst:=some d,op:= .next x false,type:=ty,pos,after:=af,guard:=none}::rest) L ds w K:=by
 rcases Qo (ty:=ty) h hb hm with⟨h1,h2⟩|⟨e,w',h1,h2,h3,h4,h5⟩
 ·refine .op a06 G G hd _ w (λρ hρ=>?_) (k2 h1);simp only[execOp,hρ x _ hx];simp[h2]
 ·refine .op a06 G G hd _ w' (λρ hρ=>?_) (k1 e w' h1 h2 h3 h4);simp only[execOp,hρ x _ hx];simp[h5]
theorem Rg.entry {e:MapEntry} {sn':Array Nat} (hx:ev L x=some (.pointer (some ⟨b,0,none⟩))) (hb:w.heap[b]? =some (.mapIter (some mb) clock (sn'.push e.born) clock)) (h:gx P kt w mb es clock) (he:e∈es) (hd:Nat.blt d n=true)
  (k:Rg P r n ops rest ((d,.tuple #[e.key,e.val])::L) ds w K):
  Rg P r n ops ({dst:=some d,op:= .entry x,type:=ty,pos,after:=af,guard:=none}::rest) L ds w K:=by
 have hf:es.find? (λx=>x.born==e.born)=some e:=by
  rw[List.find?_eq_some_iff_getElem];obtain⟨i,hi⟩:=bG.1 he;obtain⟨h1,h2⟩:=al.1 hi;refine ⟨by simp,i,h1,h2,λj hj=> ?_⟩;have qn:j<es.length:=by omega
  have:=λq=>h.Gk (an qn) hi q
  simp only[tA,beq_eq_false_iff_ne,ne_eq];intro q;have:=this q;omega
 refine .op a06 G G hd _ w (λρ hρ=>?_) k;simp only[execOp,hρ x _ hx,Instr.entry,cB,qg hb,cW,dM h.at_];simp[hf,cB,dM h.at_]
end
theorem filter_lt {α:Type} {p q:α->Bool} {a:α}:∀{l:List α},(∀x∈l,q x=true->p x=true)->a∈l->p a=true->q a=false->(l.filter q).length<(l.filter p).length
 |[],_,ha,_,_=>by cases ha
 |x::l,h,ha,hp,hq=>by
  have hle:(l.filter q).length<=(l.filter p).length:=by
   rw[<-List.countP_eq_length_filter,<-List.countP_eq_length_filter];exact List.countP_mono_left λy hy=>h y (cz _ hy)
  rcases cU.1 ha with rfl|ha
  ·rw[fP hp,fO (by simp[hq])];simp;omega
  ·have:=filter_lt (λy hy=>h y (cz _ hy)) ha hp hq;by_cases hx:q x=true
   ·rw[fP hx,fP (h x (bK ..) hx)];simp;omega
   ·rw[fO hx];by_cases hx2:p x=true
    ·rw[fP hx2];simp;omega
    ·rw[fO hx2];omega
theorem gx.ZE {P:Program} {kt:TypeId} {w:World} {b clock:Nat} {es:List MapEntry} (h:gx P kt w b es clock) {x y:MapEntry} (hx:x∈es) (hy:y∈es) (hk:x.key=y.key):x=y:=by
 obtain⟨i,hi⟩:=bG.1 hx;obtain⟨j,hj⟩:=bG.1 hy;rcases fh i j with jt|rfl|jt
 ·exact absurd hk (iL h.keys hi hj jt)
 ·exact aF (hi.symm.trans hj)
 ·exact absurd hk.symm (iL h.keys hj hi jt)
theorem gx.U1 {P:Program} {kt:TypeId} {w:World} {b clock:Nat} {es:List MapEntry} (h:gx P kt w b es clock) {x y:MapEntry} (hx:x∈es) (hy:y∈es) (hk:x.born=y.born):x=y:=by
 obtain⟨i,hi⟩:=bG.1 hx;obtain⟨j,hj⟩:=bG.1 hy;rcases fh i j with jt|rfl|jt
 ·exact absurd hk (iL h.born hi hj jt)
 ·exact aF (hi.symm.trans hj)
 ·exact absurd hk.symm (iL h.born hj hi jt)
def Jh (w:World) (k:Nat):Prop:=∃m s sn c,w.heap[k]? =some (.mapIter m s sn c)
def K0 (es:List MapEntry):Prop:=∀e∈es,∃t:Fd,e.key=kv t/\t.1.length<=140737488355328/\t.2.length<=140737488355328
theorem Ji {yl bs mb clock:Nat} {es:List MapEntry} {J:List Fd->World->Prop} (w0:World) (hk:K0 es) (hJs:∀ts w w' N,J ts w->Step allM w allM w' N->(∀k,k<w.heap.size->N k->w0.heap.size<=k/\Jh w k)->J ts w') (hJb:∀ts w,J ts w->w.heap[bs]? =some (.cells #[.map (some mb)] 238 (0,0))/\gx Tryz.prog 24 w mb es clock) (hy:∀ts w (t:Fd),J ts w->(∃e∈es,e.key=kv t)->t∉ts->ts.length<es.length->uV Tryz.prog yl [kv t].toArray w (λr w'=>r= .bool true/\J (ts++[t]) w'∧∃N,Step allM w allM w' N/\∀k,N k->¬Jh w k)) (h0:J [] w0):
  Spec Tryz.prog 187 #[.func (.yield yl) #[] #[],.pointer (some ⟨bs,0,none⟩)] w0 (λv w=>∃ts,J ts w/\ts.Nodup/\∀t,t∈ts↔∃e∈es,e.key=kv t):=by
 obtain⟨gb,hW⟩:=hJb _ _ h0;have hJ:=h0;clear h0;refine aS (args:=[_,_]) (fn:=Tryz.f187) Tryz.func187 G (n:=14) Tryz.ntmps187 ?_;have S:Step allM w0 allM w0 allM:=(aV).dF a15 (λ_ _=>trivial);refine T.aO (aA me G G G a00 G ?_);refine Rg.rangeMap allM me G G hW (λbi w1 ua Ih gi s1=>?_);replace s1:=s1.all;have:=ae gb;replace gb:=s1.ay gb;replace hJ:=hJs _ _ _ _ hJ s1 (λ_ _ h=>h.elim);have:=S.size;replace S:=S.av s1;refine ad (aT ?_);refine cR (σ:=List Fd×Array Nat) (λs=>[(0,.func (.yield yl) #[] #[]),(1,.pointer (some ⟨bs,0,none⟩)),(5,.pointer (some ⟨bi,0,none⟩))]) (λs w=>J s.1 w/\Step allM w0 allM w allM/\w.heap[bi]? =some (.mapIter (some mb) clock s.2 clock)/\s.1.Nodup/\(∀e∈es,e.born∈s.2↔∃t∈s.1,e.key=kv t)/\(∀t∈s.1,∃e∈es,e.key=kv t)) (λs=>(es.filter λe=>decide (e.born∉s.2)).length) ([],#[]) a07 ?_ ?_
 ·exact⟨hJ,S,gi,List.nodup_nil,λe _=>by simp,λt h=>by cases h⟩
 ·rintro⟨ts,sn⟩ w ⟨hJ,S,gi,lU,hsn,mL⟩;dsimp only at hJ gi lU hsn mL ⊢;obtain⟨gb,hW⟩:=hJb _ _ hJ;refine T.aO ?_;refine Rg.U0 (M:=allM) G gi trivial hW G (λZF UQ vH W6 pI yS=>?_) (λalO=>?_)
  ·have gi0:=gi;replace gb:=yS.bL gb a05;replace hJ:=hJs _ _ _ _ hJ yS (λk hk h=>by have h:k=bi:=h;subst h;exact⟨ua,_,_,_,_,gi0⟩);have:=S.size;replace S:=S.trans yS (λk hk h=>by have h:_=_:=h;subst h;first|(exfalso;omega)|(show _<=_;omega)|exact .inl rfl|exact .inr rfl|exact .inr (.inl rfl)|exact .inr (.inr rfl)|exact .inr (.inr (.inl rfl))|exact rfl);have gi_:=pI;clear gi;have gi:=gi_;clear gi_;refine b9 G G G (ad (aI (lh G (aR (aT (T.aO (Rg.entry G gi (hJb _ _ hJ).2 vH G ?_)))))));obtain⟨t,U2,ht1,UR⟩:=hk _ vH;have Yb:t∉ts:=λh=>W6 ((hsn _ vH).2 ⟨t,h,U2⟩)
   have eZ:ts.length<es.length:=by
    have h1:((t::ts).map kv).Nodup:=eu.2 ((qG.2 ⟨Yb,lU⟩).imp λh e=>h (xG e))
    have h2:=h1.length_le_of_subset (l₂:=es.map (·.key)) (λx hx=>by
     obtain⟨u,hu,rfl⟩:=cu.1 hx;rcases cU.1 hu with rfl|hu
     ·rw[<-U2];exact gw vH
     ·obtain⟨e,he,h⟩:=mL u hu;rw[<-h];exact gw he)
    simp at h2;omega
   rw[U2];refine b9 G G G ?_;refine jR (A:=RT.fd) (M:=ar) nE G G G G G (D9 ht1 UR) b4 (Lt.none _) (λu2 w2 j3 s2 z2=>?_);replace s2:=s2.all;have:=ae gb;replace gb:=s2.ay gb;have:=ae gi;replace gi:=s2.ay gi;replace hJ:=hJs _ _ _ _ hJ s2 (λ_ _ h=>h.elim);have:=S.size;replace S:=S.av s2
   skip
   refine ad (T.aO (ab G G ?_));refine bZ (A:=RT.fd) bR G nE XT G G G j3 b4 (λv3 xH=>?_);obtain rfl:=j9 xH;refine Rg.yield (vs:=[kv t]) G G G (hy _ _ t hJ ⟨_,vH,U2⟩ Yb eZ) (λr3 w3 hc=>?_);obtain⟨rfl,TT,N3,s3,hN3⟩:=hc;clear pI;replace gi:=s3.bL gi (λh=>hN3 _ h ⟨_,_,_,_,gi⟩);replace hJ:=TT;clear TT;obtain⟨gb,-⟩:=hJb _ _ hJ;replace S:=S.trans s3 (λ_ _ _=>trivial);refine gM G G (aY (v':= .bool false) G (ad (gy G (aR ?_))));refine⟨G,(ts++[t],sn.push ZF.born),a07,?_,?_⟩
   ·have tG:∀e∈es,e.born=ZF.born↔e.key=kv t:=λe he=>by
     constructor
     ·intro h;rw[gx.U1 hW he vH h,U2]
     ·intro h;rw[gx.ZE hW he vH (h.trans U2.symm)]
    refine⟨hJ,S,gi,List.nodup_append.2 ⟨lU,by simp,λa ha b hb h=>by simp at hb;subst hb;subst h;exact Yb ha⟩,λe he=>?_,λu hu=>?_⟩
    ·rw[Array.mem_push,hsn e he,tG e he];constructor
     ·rintro(⟨u,h1,h2⟩|h)
      ·exact⟨u,nS _ h1,h2⟩
      ·exact⟨t,by simp,h⟩
     ·rintro⟨u,h1,h2⟩;rcases dN.1 h1 with h1|h1
      ·exact .inl ⟨u,h1,h2⟩
      ·simp at h1;subst h1;exact .inr h2
    ·rcases dN.1 hu with hu|hu
     ·exact mL u hu
     ·simp at hu;subst hu;exact⟨_,vH,U2⟩
   ·exact filter_lt (a:=ZF) (λe _ h=>by simp only[decide_eq_true_eq,Array.mem_push,not_or]at h ⊢;exact h.1) vH (by simpa using W6) (by simp)
  ·refine b9 G G G (ad (aI (gy G (cE ?_))))
   first|refine iA.nil ?_|simp+decide only[wY,mi,if_true,if_false]|skip
   exact jB rfl ⟨ts,hJ,lU,λt=>⟨mL t,fun⟨e,he,U2⟩=>by obtain⟨t',h1,h2⟩:=(hsn e he).1 (alO e he);rw[<-xG (h2.symm.trans U2)];exact h1⟩⟩
theorem fY.any {α:Type} {A:RT α} (hA:∀M w M' w' x vs,A.R M w x vs->A.R M' w' x vs) {M M':aE} {w w':World}:∀{xs:List α} {C:List Value},fY A M w xs C->fY A M' w' xs C
 |[],_,h=>h
 |x::xs,C,h=>by
  obtain⟨vs,r,h1,h2,h3⟩:=h;exact⟨vs,r,h1,hA _ _ _ _ _ _ h2,fY.any hA h3⟩
theorem Eb (M:aE) (w:World) (M':aE) (w':World) (x:Fd) (vs:List Value) (h:RT.fd.R M w x vs):RT.fd.R M' w' x vs:=h
theorem Own.K1 {α:Type} {A:RT α} (hA:∀M w M' w' x vs,A.R M w x vs->A.R M' w' x vs) {e:TypeId} {M N:aE} {w w':World} {base:Nat} {v:Value} {xs:List α} (h:Own A e M w base v xs) (s:Step allM w allM w' N) (hn:∀b,v.ownBlock=some b->¬N b):Own A e (mI v) w' base v xs:=by
 obtain⟨⟨C,h1,h2⟩,_⟩:=h;refine⟨⟨C,⟨h1.1,?_⟩,fY.any hA h2⟩,λ_ h=>h⟩;rcases h1.2 with h3|⟨g,cap,cur,h3,h4,h5,h6,h7,h8⟩
 ·exact .inl h3
 ·exact .inr ⟨g,cap,cur,h3,h4,by rw[s.same g (ae h5) (hn g (by rw[h3];rfl))];exact h5,h6,h7,h8⟩
theorem Own.isCells {α:Type} {A:RT α} {e:TypeId} {M:aE} {w:World} {base b:Nat} {v:Value} {xs:List α} (h:Own A e M w base v xs) (hb:v.ownBlock=some b):∃cs,w.heap[b]? =some (.cells cs e (0,0)):=by
 obtain⟨⟨C,h1,_⟩,_⟩:=h;rcases h1.2 with h3|⟨g,cap,cur,h3,h4,h5,_⟩
 ·rw[h3.1]at hb;cases hb
 ·rw[h3]at hb;cases hb;exact⟨_,h5⟩
structure Aq (w0:World) (bt D:Nat) (st:Loop) (v:Value) (ts:List Fd) (w:World):Prop where
 S:Step allM w0 allM w ar
 c:w.heap[bt]? =some (.cells #[v] 183 (0,0))
 o:Own RT.fd 24 (mI v) w w0.heap.size v ts
 d:w.heap[D]? =some (.deferred (some []))
 r:w.heap[D+1]? =some (.loop st)
 hb:w0.heap.size<=bt
 hD:w0.heap.size<=D
theorem Aq.step {w0 w w':World} {bt D:Nat} {st:Loop} {v:Value} {ts:List Fd} {N:aE} (h:Aq w0 bt D st v ts w) (s:Step allM w allM w' N) (hN:∀k,k<w.heap.size->N k->w0.heap.size<=k/\Jh w k):Aq w0 bt D st v ts w':=by
 have no:∀{k o},w.heap[k]? =some o->(∀m s sn c,o≠ .mapIter m s sn c)->¬N k:=λhk ho hn=>by
  obtain⟨_,m,s,sn,c,h'⟩:=hN _ (ae hk) hn;rw[hk]at h';exact ho m s sn c (aF h')
 refine⟨h.S.trans s (λk hk hn=>?_),s.bL h.c (no h.c (by intros;simp)),h.o.K1 Eb s (λb hb=>?_),s.bL h.d (no h.d (by intros;simp)),s.bL h.r (no h.r (by intros;simp)),h.hb,h.hD⟩
 ·have:=(hN k (lG hk h.S.size) hn).1;omega
 ·obtain⟨cs,hc⟩:=h.o.isCells hb;exact no hc (by intros;simp)
theorem Aq.nv {w0 w:World} {bt D:Nat} {st st':Loop} {v:Value} {ts:List Fd} (h:Aq w0 bt D st v ts w):Aq w0 bt D st' v ts (w.putObj (D+1) (.loop st')):=by
 have s:Step allM w allM (w.putObj (D+1) (.loop st')) (λk=>k=D+1):=fD trivial;have hD:=h.hD;refine⟨h.S.trans s (λk hk hn=>by have hn:k=D+1:=hn;omega),s.bL h.c (λhn=>by have hn:bt=D+1:=hn;have h1:=h.c;rw[hn,h.r]at h1;cases h1),h.o.K1 Eb s (λb hb hn=>?_),s.bL h.d (λhn=>by have hn:D=D+1:=hn;omega),by have:=ae h.r;simp[World.putObj,dD,this],h.hb,h.hD⟩;have hn:b=D+1:=hn;obtain⟨cs,hc⟩:=h.o.isCells hb;rw[hn,h.r]at hc;cases hc
theorem Gp {bs mb clock:Nat} {es:List MapEntry} (w0:World) (hk:K0 es) (hes:es.length<=100000000) (U3:w0.heap[bs]? =some (.cells #[.map (some mb)] 238 (0,0))) (hW:gx Tryz.prog 24 w0 mb es clock):
  Spec Tryz.prog 252 #[.slice none 0 0,.func (.func 187) #[] [.pointer (some ⟨bs,0,none⟩)].toArray] w0 (λv w=>∃ts:List Fd,ts.Nodup/\(∀t,t∈ts↔∃e∈es,e.key=kv t)/\Own RT.fd 24 (mI v) w w0.heap.size v ts/\Step allM w0 allM w ar):=by
 refine qT (args:=[_,_]) (fn:=Tryz.f252) Tryz.func252 G (n:=13) Tryz.ntmps252 (T.aO ?_);refine iP allM G G (λbt w1 ua avv gt s1=>?_);change w1.heap[bt]? =some (.cells #[.slice none 0 0] 183 (0,0))at gt;replace s1:=s1.all;refine Rg.aZ G G (aI (T.aO (ab G G (ad (aT ?_)))));refine T.range (gf:=187) (lb:=[.pointer (some ⟨bs,0,none⟩)].toArray) G aki (λrec qS=>?_);obtain⟨D,hD⟩:∃D,D=w1.heap.size:=⟨_,rfl⟩;have sA:Step allM w1 allM ((w1.alloc (.deferred (some []))).alloc (.loop (rec .ready none))) ar:=(dL _ _ _).av (dL _ _ _)
 have h0:Aq w0 bt D (rec .ready none) (.slice none 0 0) [] ((w1.alloc (.deferred (some []))).alloc (.loop (rec .ready none))):=by
  refine⟨s1.av sA,sA.ay gt,eE _ _ _ _ _,?_,?_,ua,by rw[hD];exact s1.size⟩
  ·rw[hD];exact(dL allM (w1.alloc _) _).ay (cY w1 _)
  ·rw[hD];have:=cY (w1.alloc (.deferred (some []))) (.loop (rec .ready none));rwa [World.size_alloc]at this
 rw[<-hD]at qS ⊢;have hz:=h0.S.size;refine Spec.mono (Ji (J:=λts w=>∃v,Aq w0 bt D (rec .ready none) v ts w) _ hk (λts w w' N ⟨v,h⟩ s hN=>⟨v,h.step s (λk hk hn=>⟨ep hz (hN k hk hn).1,(hN k hk hn).2⟩)⟩) (λts w ⟨v,h⟩=>⟨h.S.ay U3,hW.bD h.S⟩) (λts wr t hJ mL Yb eZ=>?_) ⟨_,h0⟩) (λ_ w3 h3=>?_)
 ·obtain⟨v,h⟩:=hJ;obtain⟨e,he,Qp⟩:=mL;obtain⟨t',alP,ht1,UR⟩:=hk e he;obtain rfl:=xG (Qp.symm.trans alP);have hzr:=ae h.r;refine oG (ps:=[7]) (vs:=[kv t]) qS h.r G XT (aN ?_);refine jR (A:=RT.fd) (M:=λk=>k=D+1) nE G G G G G (D9 ht1 UR) b4 (λk hk=>by have hk:k=D+1:=hk;omega) (λu2 w2 j3 s2 z2=>?_);replace s2:=s2.all
  skip
  refine ad (⟨G,s2.ay h.r,?_⟩);have h4:=(h.step s2 (λ_ _ h=>h.elim)).nv (st':=rec .busy none);have s3':Step (λk=>k=D+1) w2 (λk=>k=D+1) (w2.putObj (D+1) (.loop (rec .busy none))) (λk=>k=D+1):=fD rfl;have s3:=s3'.all;have KL:=j3.le XT s3'.le;clear s3';generalize w2.putObj (D+1) _=w4 at h4 s3 KL ⊢;refine aT (aN (aA j1 G G G h4.c G ?_));refine bZ (A:=RT.fd) bR G nE XT G G G KL b4 (λv3 xH=>?_);obtain rfl:=j9 xH;refine fm (A:=RT.fd) (hn:=by decide) (M:=mI v) j1 nE XT G G (λb hb=>(h4.o.base b hb).2) (D9 ht1 UR) (.inl G) (λu5 w5 rS s5=>?_);refine dA (M:=mI v) (base:=w0.heap.size) j1 nE rfl rfl rfl rfl (h4.o.bD s5) rS b4 a13 a13 (ep h4.S.size s5.size) (λv6 M6 w6 C0 s6=>?_);have gc:=s6.all.bL (s5.all.ay h4.c) (λhn=>h4.o.fk h4.c XT hn);refine ch (M:=allM) ajX rfl rfl gc rfl (by obtain⟨_,_,he,_⟩:=C0.isSlice;rw[he];rfl) trivial (λw7 gc7 s7=>?_);refine ad ?_
  have alR:∀k,mI v k->¬Jh wr k:=λk hk ⟨_,_,_,_,h9⟩=>by
   obtain⟨cs,hc⟩:=h.o.isCells hk;rw[hc]at h9;cases h9
  have pr:∀k,k<wr.heap.size->k=D+1->¬Jh wr k:=λk _ hk ⟨_,_,_,_,h9⟩=>by subst hk;rw[h.r]at h9;cases h9
  have pc:∀k,k<wr.heap.size->k=bt->¬Jh wr k:=λk _ hk ⟨_,_,_,_,h9⟩=>by subst hk;rw[h.c]at h9;cases h9
  have h7:Aq w0 bt D (rec .busy none) v6 (ts++[t]) w7:=by
   have nb:∀b,v6.ownBlock=some b->b≠bt:=λb hb hn=>by subst hn;exact C0.fk gc XT hb
   refine⟨?_,gc7,C0.K1 Eb s7 nb,?_,?_,h.hb,h.hD⟩
   ·refine((h4.S.av s5.all).trans s6.all (λk hk hn=>?_)).trans s7 (λk hk hn=>?_)
    ·have:=(h4.o.base k hn).1;omega
    ·have hn:k=bt:=hn;have:=h.hb;omega
   ·exact s7.bL (s6.all.bL (s5.all.ay h4.d) (λhn=>by obtain⟨cs,hc⟩:=h4.o.isCells hn;rw[h4.d]at hc;cases hc)) (λhn=>by have hn:D=bt:=hn;have h1:=h.c;rw[<-hn,h.d]at h1;cases h1)
   ·exact s7.bL (s6.all.bL (s5.all.ay h4.r) (λhn=>by obtain⟨cs,hc⟩:=h4.o.isCells hn;rw[h4.r]at hc;cases hc)) (λhn=>by have hn:D+1=bt:=hn;have h1:=h.c;rw[<-hn,h.r]at h1;cases h1)
  have s8:Step allM w7 allM (w7.putObj (D+1) (.loop (rec .ready none))) (λk=>k=D+1):=fD trivial;exact⟨h7.r,G,⟨v6,h7.nv⟩,λk=>¬Jh wr k,(((((s2.dF a15 (λ_ _=>trivial)).trans s3 pr).av s5.all).trans s6.all (λk _ hn=>alR k hn)).trans s7 pc).trans s8 pr,λ_ h=>h⟩
 ·obtain⟨ts,⟨v,h⟩,lU,mL⟩:=h3;left;refine ⟨h.r,?_⟩;have h5:=h.nv (st':=rec .exhausted none);generalize w3.putObj (D+1) _=wE at h5 ⊢;refine T.aO (aA j1 G G G h5.c G (Rg.aZ G G (aM ?_)));have sE:Step allM wE allM (wE.putObj D (.deferred none)) (λk=>k=D):=fD trivial;have hDD:=h.hD;exact Ir G G h5.d ⟨ts,lU,mL,h5.o.K1 Eb sE (λb hb hn=>by have hn:b=D:=hn;obtain⟨cs,hc⟩:=h5.o.isCells hb;rw[hn,h5.d]at hc;cases hc),h5.S.trans sE (λk hk hn=>by have hn:k=D:=hn;omega)⟩
theorem Ec {bs mb clock:Nat} {es:List MapEntry} (w0:World) (hk:K0 es) (hes:es.length<=100000000) (U3:w0.heap[bs]? =some (.cells #[.map (some mb)] 238 (0,0))) (hW:gx Tryz.prog 24 w0 mb es clock):
  Spec Tryz.prog 185 #[.func (.func 187) #[] [.pointer (some ⟨bs,0,none⟩)].toArray] w0 (λv w=>∃ts:List Fd,ts.Nodup/\(∀t,t∈ts↔∃e∈es,e.key=kv t)/\Own RT.fd 24 (mI v) w w0.heap.size v ts/\Step allM w0 allM w ar):=by
 refine aS (args:=[_]) (fn:=Tryz.f185) Tryz.func185 G (n:=5) Tryz.ntmps185 (T.aO (Rg.aZ G G (T.aO (ab G G ?_))));refine aJ G G akr (Gp _ hk hes U3 hW) (λr w1 hc=>?_);refine Rg.aZ G G (aM ?_);exact aP G G hc
def cN (t:Fd):List UInt8:=t.1++[0]++t.2
theorem Qq {M:aE} {t:Fd} (w0:World) (hM:Lt M w0) (h1:t.1.length<=1000000) (h2:t.2.length<=1000000):
  Spec Tryz.prog 95 #[kv t] w0 (λv w=>v= .string ⟨(cN t).toArray⟩/\Step M w0 M w ar):=by
 refine aS (args:=[_]) (fn:=Tryz.f95) Tryz.func95 G (n:=9) Tryz.ntmps95 ?_;have S:Step M w0 M w0 ar:=aV;refine T.aO ?_;refine Rg.iI (A:=RT.fd) G G hM (D9 q0 q0) G (λu0 w1 dB s0 _=>?_);replace hM:=s0.lt hM;have:=S.size;replace S:=S.av s0;refine Rg.aZ G G (T.aO ?_);refine au (M:=M) (A:=RT.fd) (B:=RT.str) bR G G I9 XT (MM) G G XT a00 (by repeat (first|exact bN _ _|refine bp (bO a00) ?_)) (λB5 lQ=>?_);refine bM aG G G G G G lQ b4 (λv1 nu=>?_);obtain rfl:=eJ nu;refine Rg.cat (p:=t.1) (q:=[0]) rfl rfl rfl a13 ?_;refine au (M:=M) (A:=RT.fd) (B:=RT.str) bR G G I9 XT (Zk) G G XT a00 (by repeat (first|exact bN _ _|refine bp (bO a00) ?_)) (λUP kH=>?_);refine bM aG G G G G G kH b4 (λv4 qb=>?_);obtain rfl:=eJ qb;refine Rg.cat (p:=t.1++[0]) (q:=t.2) rfl rfl rfl a13 (Rg.aZ rfl rfl (aM ?_));exact aP G G ⟨G,S⟩
theorem Ed (a b:List UInt8) (w:World):Spec Tryz.prog 147 #[.string ⟨a.toArray⟩,.string ⟨b.toArray⟩] w (λv w'=>v= .int .i64 (Lib.compareBytes a b)/\w'=w):=(Any.strings_Compare Tryz.UJ ⟨a.toArray⟩ ⟨b.toArray⟩ w).mono λe w' ⟨h1,h2⟩=>⟨_,h1,rfl,h2⟩
section
variable {P:Program} {r:Option Nat} {n:Nat} {L:Sl} {ds:List Deferred} {w:World} {K:Kt} {ops:Array Oper} {rest:List Oper} {d:Nat} {x:Operand} {ty:TypeId} {pos:String} {af:Array Edge}
theorem jI.tE {id:Nat} {l:List Oper} (hm:P.follows .mixedOrders=true) (dO:fu l 0=true) (h:jI P r n l L ds (w.drewN 1) K):T P r n (.region id l.toArray true) L ds w K:=by
 refine ⟨λa ha=>wpIn_region_draw λt=> ?_⟩;simp only[Region.schedule,hm,Bool.true_or,if_true,Region.linearise];obtain⟨J,h1,h2,h3,h4⟩:=h a ha;refine mA (J:=J) dO (λ{D D' a w} hi hD=>h1 D D' a w hi hD) (λ{D a' w' j o rest} hj ho oB hp ku hi hk=>h2 _ _ _ _ _ _ _ hj ho oB hp ku hi hk) h3 _ t _ a _ (by simp) a94 (λi o h1 h2=>?_) (h1 _ _ _ _ h4 λi _=>?_)
 ·simp[Array.getElem?_replicate]at h2
 ·simp[Array.getElem?_replicate]
theorem T.ZG {id:Nat} {l l':List Oper} (π:List Nat) (m:Nat) (fl:List Nat) (c:Nat) (N:aE) (hm:P.follows .mixedOrders=true) (Pe:Aa π l=l') (yu:fu l 0=true) (hπ:mH π l.length=true) (yM:Nat.blt m l'.length=true) (dO:fu l' 0=true) (tH:ll l' m=true) (Ik:mD l' m fl c=true)
  (h:lD P r n l'.toArray (l'.take m) L ds (w.drewN 1) (λL'=>(∀j o,j∈fl->l'[j]? =some o->cf P N (w.drewN 1) L' o)/\tP P r n l'.toArray N (w.drewN 1) K c (l'.drop m) L' ds (w.drewN 1))):T P r n (.region id l.toArray true) L ds w K:=by
 subst Pe;exact jI.tE hm yu (.perm π hπ yu (FG m fl c N yM dO tH Ik h))
theorem Rg.ZH {e:TypeId} {v:Value} (hx:ev L x=some v) (hd:Nat.blt d n=true) (k:Rg P r n ops rest ((d,.pointer (some ⟨w.heap.size,0,none⟩))::L) ds (w.alloc (.cells v.cells e (0,0))) K):
  Rg P r n ops ({dst:=some d,op:= .box e x,type:=ty,pos,after:=af,guard:=none}::rest) L ds w K:=by
 refine .op a06 G G hd _ (w.alloc (.cells v.cells e (0,0))) (λρ hρ=>?_) k;simp only[execOp,hρ x _ hx];simp[Instr.box,newVar,newRow,newObj,Sem.run]
theorem Jj (w:World) (o:Obj):w.alloc o=Go.Sort.grow w #[o]:=by
 unfold World.alloc Go.Sort.grow;congr 1
theorem Jk (w:World) (os:Array Obj) (q:Nat):(Go.Sort.grow w os).drewN q=Go.Sort.grow (w.drewN q) os:=rfl
end
abbrev gK (t:Fd):Obj:= .cells #[.string ⟨t.1.toArray⟩,.string ⟨t.2.toArray⟩] 24 (0,0)
theorem Qr {t:Fd} (w0:World) (h1:t.1.length<=1000000) (h2:t.2.length<=1000000):
  Spec Tryz.prog 95 #[kv t] w0 (λv w=>v= .string ⟨(cN t).toArray⟩/\w=w0.alloc (gK t)):=by
 refine aS (args:=[_]) (fn:=Tryz.f95) Tryz.func95 G (n:=9) Tryz.ntmps95 (T.aO (Rg.ZH G G ?_));have gb:=cY w0 (gK t);change Rg _ _ _ _ _ _ _ (w0.alloc (gK t)) _;generalize hw:w0.alloc (gK t)=w1 at gb ⊢;refine Rg.aZ G G (T.aO (aK (o':=0) bR G G I9 XT rfl rfl (aA aG rfl rfl rfl gb rfl (Rg.cat (p:=t.1) (q:=[0]) rfl rfl rfl a13 (aK (o':=1) bR rfl rfl I9 XT rfl rfl (aA aG rfl rfl rfl gb rfl (Rg.cat (p:=t.1++[0]) (q:=t.2) rfl rfl rfl a13 (Rg.aZ rfl rfl ?_))))))));refine aM ?_;exact a69
theorem U4 {s t:Fd} (w0:World) (h1:s.1.length<=1000000) (h2:s.2.length<=1000000) (h3:t.1.length<=1000000) (h4:t.2.length<=1000000):
  Spec Tryz.prog 146 #[kv s,kv t] w0 (λv w=>v= .int .i64 (Lib.compareBytes (cN s) (cN t))/\w=((((w0.alloc (gK s)).alloc (gK t)).drewN 1).alloc (gK s)).alloc (gK t)):=by
 refine aS (args:=[_,_]) (fn:=Tryz.f146) Tryz.func146 G (n:=10) Tryz.ntmps146 (T.aO (Rg.ZH G G ?_));change Rg _ _ _ _ _ _ _ (w0.alloc (gK s)) _;refine Rg.ZH G G ?_;change Rg _ _ _ _ _ _ _ ((w0.alloc (gK s)).alloc (gK t)) _;have g1:((w0.alloc (gK s)).alloc (gK t)).heap[w0.heap.size]? =some (gK s):=(dL ar _ _).ay (cY w0 _);have g2:=cY (w0.alloc (gK s)) (gK t);have kp:=iR ar (((w0.alloc (gK s)).alloc (gK t)).drewN 1);refine Rg.aZ G G (aI ?_);apply T.ZG [0,2,1,3,4,5] 2 [1] 1 ar mixed
 ·simp+decide only[Aa,sw,dC,jw,jq,jr,gL,dq,gE,lT,cond_true,cond_false,Nat.reduceBEq,Nat.reduceAdd,beq_self_eq_true];rfl
 ·rfl
 ·rfl
 ·rfl
 ·rfl
 ·rfl
 ·rfl
 have g1':(((w0.alloc (gK s)).alloc (gK t)).drewN 1).heap[w0.heap.size]? =some (gK s):=g1;have g2':(((w0.alloc (gK s)).alloc (gK t)).drewN 1).heap[(w0.alloc (gK s)).heap.size]? =some (gK t):=g2;refine eQ (vs:=[.string ⟨s.1.toArray⟩,.string ⟨s.2.toArray⟩]) bR G nE G G G g1' (Rg.cI (eQ (vs:=[.string ⟨t.1.toArray⟩,.string ⟨t.2.toArray⟩]) bR G nE G G G g2' (Rg.cI (fB (⟨ik ⟨eO G a00 a30,trivial⟩,?_⟩)))));replace kp:=kp.qp (dL ar (((w0.alloc (gK s)).alloc (gK t)).drewN 1) (gK s));refine aJ G G E95 (Qr (t:=s) _ h1 h2) (λr5 w5 hc=>?_);obtain⟨rfl,rfl⟩:=hc;refine(fun(kp:fa _ _ _)=>ad ⟨G,G,λ_=>kp,?_⟩) a03;refine aJ G G E95 (Qr (t:=t) _ h3 h4) (λr6 w6 hc=>?_);obtain⟨rfl,rfl⟩:=hc;refine ad ⟨G,G,λh=>absurd G h,?_⟩;refine aJ G G aj8 (Ed _ _ _) (λr7 w7 hc=>?_);obtain⟨rfl,rfl⟩:=hc;refine ad ⟨G,G,λh=>absurd G h,aB G G (ad ⟨G,G,λh=>absurd G h,lH (aM ?_)⟩)⟩;exact a69
end Go.K
namespace Go.K
open Go.Lib (compareBytes)
theorem oX (a b:UInt8) (x y:List UInt8):compareBytes (a::x) (b::y)=if a.toNat<b.toNat then-1 else if b.toNat<a.toNat then 1 else compareBytes x y:=by
 rw[compareBytes];simp only[UInt8.lt_iff_toNat_lt]
theorem AK:∀a,compareBytes a a=0
 |[]=>rfl
 |a::x=>by rw[oX,if_neg (ky _),if_neg (ky _)];exact AK x
theorem rv:∀{a b},compareBytes a b=0->a=b
 |[],[],_=>rfl
 |[],_::_,h=>by simp[compareBytes]at h
 |_::_,[],h=>by simp[compareBytes]at h
 |a::x,b::y,h=>by
  rw[oX]at h
  split at h
  ·omega
  ·split at h
   ·omega
   ·rw[rv h,UInt8.toNat_inj.1 (show a.toNat=b.toNat by omega)]
theorem pK:∀a b,compareBytes a b= -compareBytes b a
 |[],[]=>rfl
 |[],_::_=>rfl
 |_::_,[]=>rfl
 |a::x,b::y=>by
  rw[oX,oX,pK x y]
  split<;>split<;>first|omega|rfl
theorem rU:∀{a b c},compareBytes a b<0->compareBytes b c<0->compareBytes a c<0
 |[],[],_,h,_=>by simp[compareBytes]at h
 |_::_,[],_,h,_=>by simp[compareBytes]at h
 |_,_::_,[],_,h=>by simp[compareBytes]at h
 |[],_::_,_::_,_,_=>by simp[compareBytes]
 |a::x,b::y,c::z,h1,h2=>by
  rw[oX]at h1 h2 ⊢
  split at h1
  ·split at h2
   ·rw[if_pos q0];omega
   ·split at h2
    ·omega
    ·rw[if_pos q0];omega
  ·split at h1
   ·omega
   ·split at h2
    ·rw[if_pos q0];omega
    ·split at h2
     ·omega
     ·rw[if_neg q0,if_neg q0];exact rU h1 h2
theorem K2 {α:Type} (f:α->List UInt8):Go.Sort.SWO (Go.Proofs.ltOf λx y=>compareBytes (f x) (f y)) where
 irrefl x:=by simp[Go.Proofs.ltOf,AK]
 trans x y z h1 h2:=by
  simp only[Go.Proofs.ltOf,decide_eq_true_eq]at*
  exact rU h1 h2
 ntrans x y z h1 h2:=by
  simp only[Go.Proofs.ltOf,decide_eq_false_iff_not]at*
  intro h3;by_cases e1:compareBytes (f x) (f y)=0
  ·rw[rv e1]at h3;exact h2 h3
  ·by_cases e2:compareBytes (f y) (f z)=0
   ·rw[rv e2]at h1;exact h1 h3
   ·have n1:=pK (f x) (f y);have n2:=pK (f y) (f z);have n3:=pK (f x) (f z);have:compareBytes (f z) (f x)<0:=rU (b:=f y) q0 q0;omega
end Go.K
namespace Go.Proofs
open Go.Shelf
def Tryz.Jl:Go.Shelf.Ren:=⟨fun|6=>186|15=>179|14=>253|28=>237|29=>238|20=>287|21=>288|22=>289|23=>290|24=>291|25=>292|26=>293|27=>294|46=>312|47=>276|48=>277|49=>313|50=>314|57=>322|n=>n,fun|22=>183|24=>24|25=>246|3=>3|39=>262|0=>0|53=>336|55=>205|4=>4|46=>330|45=>329|50=>198|5=>5|9=>9|66=>357|70=>361|76=>390|77=>276|n=>n,fun|n=>n⟩
theorem Tryz.Qs:Go.Proofs.SlLaysF0.n6 Tryz.prog Tryz.Jl:={
 mixed:=by kernel_rfl
 f6:=⟨Tryz.f186.name,by decide,Tryz.func186.trans a04⟩
 f14:=⟨Tryz.f253.name,by decide,Tryz.func253.trans a04⟩
 f15:=Tryz.func179.trans a04
 f20:=⟨Tryz.f287.name,by decide,Tryz.func287.trans a04⟩
 f21:=⟨Tryz.f288.name,by decide,Tryz.func288.trans a04⟩
 f22:=⟨Tryz.f289.name,by decide,Tryz.func289.trans a04⟩
 f23:=⟨Tryz.f290.name,by decide,Tryz.func290.trans a04⟩
 f24:=⟨Tryz.f291.name,by decide,Tryz.func291.trans a04⟩
 f25:=⟨Tryz.f292.name,by decide,Tryz.func292.trans a04⟩
 f26:=⟨Tryz.f293.name,by decide,Tryz.func293.trans a04⟩
 f27:=⟨Tryz.f294.name,by decide,Tryz.func294.trans a04⟩
 f28:=Tryz.func237.trans a04
 f29:=Tryz.func238.trans a04
 f46:=⟨Tryz.f312.name,by decide,Tryz.func312.trans a04⟩
 f47:=Tryz.func276.trans a04
 f48:=Tryz.func277.trans a04
 f49:=⟨Tryz.f313.name,by decide,Tryz.func313.trans a04⟩
 f50:=⟨Tryz.f314.name,by decide,Tryz.func314.trans a04⟩
 f57:=⟨Tryz.f322.name,by decide,Tryz.func322.trans a04⟩
 t0:=BL
 a0:=Tryz.isAgg0
 z0:=Tryz.sizeOf0
 v0:=Tryz.zeroValue0
 t3:=aj
 a3:=Tryz.isAgg3
 z3:=Tryz.sizeOf3
 v3:=Tryz.zeroValue3
 t4:=qM
 a4:=Tryz.isAgg4
 z4:=Tryz.sizeOf4
 v4:=Tryz.zeroValue4
 t5:=cZ
 a5:=Tryz.isAgg5
 z5:=Tryz.sizeOf5
 v5:=Tryz.zeroValue5
 t9:=aG
 a9:=Tryz.isAgg9
 z9:=BM
 v9:=od
 t22:=j1
 a22:=Tryz.isAgg183
 z22:=Tryz.sizeOf183
 v22:=Tryz.zeroValue183
 t25:=Tryz.underlying246
 a25:=Tryz.isAgg246
 z25:=Tryz.sizeOf246
 v25:=Tryz.zeroValue246
 t39:=Tryz.underlying262
 a39:=Tryz.isAgg262
 z39:=Tryz.sizeOf262
 v39:=Tryz.zeroValue262
 t45:=Tryz.underlying329
 a45:=Tryz.isAgg329
 z45:=Tryz.sizeOf329
 v45:=Tryz.zeroValue329
 t46:=Tryz.underlying330
 a46:=Tryz.isAgg330
 z46:=Tryz.sizeOf330
 v46:=Tryz.zeroValue330
 t50:=Tryz.underlying198
 a50:=Tryz.isAgg198
 z50:=Tryz.sizeOf198
 v50:=Tryz.zeroValue198
 t53:=Tryz.underlying336
 a53:=Tryz.isAgg336
 z53:=Tryz.sizeOf336
 v53:=Tryz.zeroValue336
 t55:=jY
 a55:=Tryz.isAgg205
 z55:=Tryz.sizeOf205
 v55:=Tryz.zeroValue205
 t66:=Tryz.underlying357
 a66:=Tryz.isAgg357
 z66:=Tryz.sizeOf357
 v66:=Tryz.zeroValue357
 t70:=Tryz.underlying361
 a70:=Tryz.isAgg361
 z70:=Tryz.sizeOf361
 v70:=Tryz.zeroValue361
 t76:=Tryz.underlying390
 a76:=Tryz.isAgg390
 z76:=Tryz.sizeOf390
 v76:=Tryz.zeroValue390
 t77:=Tryz.underlying276
 a77:=Tryz.isAgg276
 z77:=Tryz.sizeOf276
 v77:=Tryz.zeroValue276}
end Go.Proofs
namespace Go.K
open Go.Proofs
set_option maxRecDepth 10000
open Go.Proofs Go.Sort
abbrev TK:Type:={t:Fd // (0:UInt8)∉t.1/\t.1.length<=1000000/\t.2.length<=1000000}
instance aq9:Inhabited TK:=⟨⟨([],[]),by simp,by simp,by simp⟩⟩
def B7 (x:TK):List Value:=[.string ⟨x.1.1.toArray⟩,.string ⟨x.1.2.toArray⟩]
def Ol (x y:TK):Int:=Lib.compareBytes (cN x.1) (cN y.1)
theorem AL:∀{a b x y:List UInt8},(0:UInt8)∉a->(0:UInt8)∉b->a++[0]++x=b++[0]++y->a=b/\x=y
 |[],[],_,_,_,_,h=>⟨rfl,by simpa using h⟩
 |[],c::b,_,_,_,hb,h=>by
  simp at h;exact absurd (by rw[<-h.1];exact bK ..) hb
 |c::a,[],_,_,ha,_,h=>by
  simp at h;exact absurd (by rw[h.1];exact bK ..) ha
 |c::a,e::b,x,y,ha,hb,h=>by
  simp only[ov,zu]at h;obtain⟨h1,h2⟩:=AL (λh=>ha (cz _ h)) (λh=>hb (cz _ h)) h.2;exact⟨by rw[h.1,h1],h2⟩
theorem alS (w:World):(isAgg 24).run Tryz.prog w= .ok true w:=by simp[isAgg,cB,run_underlying bR]
theorem aeJ (w:World):(Go.sizeOf 24).run Tryz.prog w= .ok 2 w:=by
 obtain⟨i,h1,_,h2,_⟩:=nE.get;simp[Go.sizeOf,typeInfo,cB,program,Sem.run,h1,h2]
theorem Qt (lW off size:Nat) (w:World):CmpLays Tryz.prog 146 #[] B7 2 Ol lW off size w:=λm os dk hs x y=>
 (show Calls Tryz.prog 146 #[kv x.1,kv y.1] (sortWorldK B7 2 w lW off m dk os) (λe w'=>∃v,e= .returned v/\_/\_)from U4 (s:=x.1) (t:=y.1) _ x.2.2.1 x.2.2.2 y.2.2.1 y.2.2.2).mono λe w' ⟨v,h1,h2,h3⟩=>⟨by rw[h1,h2];rfl,1,#[gK x.1,gK y.1,gK x.1,gK y.1],by rw[h3];simp only[Jj,Jk,Go.Sort.grow_grow];rfl⟩
theorem aeK (lW off cap:Nat) (d:Array TK) (w:World) (hH:HoldsK B7 2 w lW off d) (hblk:lW<w.heap.size) (lP:d.size<4611686018427387904):
  Spec Tryz.prog 186 #[.slice (some ⟨lW,off,none⟩) d.size cap,.func (.func 146) #[] #[]] w (λv w'=>v= .tuple #[]/\∃n os,w'=sortWorldK B7 2 w lW off n (d.toList.mergeSort λx y=> !(Go.Proofs.ltOf Ol) y x).toArray os):=by
 exact(Go.Proofs.AnyQ.slices_SortFunc_total Tryz.Qs 2 alS aeJ B7 (λ_=>rfl) (λx v hv=>by simp[B7]at hv;rcases hv with rfl|rfl<;>rfl) Ol (K2 _) 146 #[] lW off cap d w aj7 (Qt lW off d.size w) hH hblk lP (λx y h1 h2=>by
  have h0:Ol x y=0:=by
   have:=pK (cN x.1) (cN y.1);simp only[Go.Proofs.ltOf,decide_eq_false_iff_not]at h1 h2;unfold Ol at h1 h2 ⊢;omega
  have h3:=rv h0;obtain⟨h4,h5⟩:=AL x.2.1 y.2.1 h3;exact Subtype.ext (Prod.ext h4 h5))).mono λe w' ⟨h1,h2⟩=>⟨_,h1,G,h2⟩
end Go.K
namespace Go.K
set_option linter.unusedSectionVars false
open Go.Sort Go.Proofs
section
variable {α:Type} [Inhabited α] {enc:α->List Value} {k:Nat}
theorem yB (hk:∀x,(enc x).length=k) (h0:0<k):∀(l:List α) (t:Nat),(l.flatMap enc)[t]? =(l[t/k]?).bind λx=>(enc x)[t%k]?
 |[],t=>by simp
 |x::l,t=>by
  rw[tx];rcases cL t k with h|h
  ·rw[List.getElem?_append_left (by rw[hk];exact h),Nat.div_eq_of_lt h,Nat.mod_eq_of_lt h];rfl
  ·rw[List.getElem?_append_right (by rw[hk];exact h),hk,yB hk h0 l];have e1:t/k=(t-k)/k+1:=by rw[Nat.div_eq t k,if_pos ⟨h0,h⟩]
   have e2:(t-k)%k=t%k:=by rw[Nat.mod_eq t k,if_pos ⟨h0,h⟩]
   rw[e1,e2,List.getElem?_cons_succ]
theorem ry (hk:∀x,(enc x).length=k):∀l:List α,(l.flatMap enc).length=l.length*k
 |[]=>by simp
 |x::l=>by rw[tx,bU,hk,ry hk l,cy,Nat.add_mul];omega
theorem AM (hk:∀x,(enc x).length=k) (h0:0<k) (d:Array α) {t:Nat} (ht:t<d.size*k):(d.toList.flatMap enc)[t]? =some (flatK enc k d)[t]! :=by
 have h1:t/k<d.size:=Nat.div_lt_of_lt_mul (by rw[Nat.mul_comm];exact ht);have h2:t%k<k:=Nat.mod_lt _ h0;rw[yB hk h0,get_flatK _ _ _ _ ht];have e:d.toList[t/k]? =some d[t/k]! :=by simp[h1]
 rw[e];simp[hk,h2]
theorem MW {w:World} {g:Nat} {cur:Array Value} {e:TypeId} {d:Array α} (hk:∀x,(enc x).length=k) (h0:0<k) (hg:w.heap[g]? =some (.cells cur e (0,0))) (hC:cur.toList.take (d.size*k)=d.toList.flatMap enc):HoldsK enc k w g 0 d:=λj hj=>by
 rw[size_flatK]at hj;have h1:=AM hk h0 d hj;rw[<-hC,dE,if_pos hj,Array.getElem?_toList]at h1;constructor
 ·simp[World.cell?,hg,h1]
 ·simp[World.frozen?,hg]
theorem B8 {w:World} {g n:Nat} {cur:Array Value} {e:TypeId} {d:Array α} {os:Array Obj} (hg:w.heap[g]? =some (.cells cur e (0,0))):(sortWorldK enc k w g 0 n d os).heap[g]? =some (.cells (putCells id 0 (flatK enc k d) cur) e (0,0)):=by
 have eZ:g<w.heap.size:=ae hg
 have h1:(w.heap.modify g (onCells (putCells id 0 (flatK enc k d))))[g]? =some (.cells (putCells id 0 (flatK enc k d) cur) e (0,0)):=by
  rw[wN,if_pos rfl,hg];rfl
 show((w.heap.modify g (onCells (putCells id 0 (flatK enc k d))))++os)[g]? =_;rw[Array.getElem?_append_left (by simpa using eZ)];exact h1
theorem yV {w:World} {g n:Nat} {d:Array α} {os:Array Obj}:Step allM w allM (sortWorldK enc k w g 0 n d os) (λb=>b=g):=
 ⟨λh=>absurd (h w.heap.size trivial) (ky _),rfl,rfl,rfl,by show _<=((w.heap.modify g _)++os).size;simp,λ_ _=>Iff.rfl,λb hb hn=>by
  have hn: ¬b=g:=hn;show((w.heap.modify g (onCells (putCells id 0 (flatK enc k d))))++os)[b]? =_;rw[Array.getElem?_append_left (by simpa using hb),wN,if_neg (λh=>hn h.symm)],λ_ _=>trivial⟩
theorem B9 {F cur:Array Value} (h:F.size<=cur.size):(putCells id 0 F cur).toList.take F.size=F.toList:=by
 apply kn;intro j;rw[dE];by_cases hj:j<F.size
 ·rw[if_pos hj];simp[putCells,hj,lG hj h]
 ·rw[if_neg hj,dr a98]
theorem Ee (hk:∀x,(enc x).length=k) (h0:0<k) (d:Array α):(flatK enc k d).toList=d.toList.flatMap enc:=by
 apply kn;intro j;by_cases hj:j<d.size*k
 ·rw[AM hk h0 d hj];have:j<(flatK enc k d).size:=by rw[size_flatK];exact hj
  rw[Array.getElem?_toList,getElem!_pos _ j this];exact Array.getElem?_eq_getElem this
 ·rw[dr (by rw[Array.length_toList,size_flatK];omega),dr (by rw[ry hk,Array.length_toList];omega)]
end
end Go.K
namespace Go.K
open Go.Proofs
set_option maxRecDepth 10000
open Go.Proofs Go.Sort
theorem K3:∀{ts:List Fd} {C:List Value} {M:aE} {w:World},fY RT.fd M w ts C->C=ts.flatMap λt=>[.string ⟨t.1.toArray⟩,.string ⟨t.2.toArray⟩]
 |[],C,_,_,h=>h
 |t::ts,C,_,_,⟨vs,r,h1,h2,h3⟩=>by
  obtain⟨va,vb,rfl,h4,h5⟩:=h2;rw[h1,K3 h3,h4.1,h5.1];rfl
theorem Gq {M:aE} {w:World}:∀{ts:List Fd},(∀t∈ts,t.1.length<=1000000/\t.2.length<=1000000)->fY RT.fd M w ts (ts.flatMap λt=>[.string ⟨t.1.toArray⟩,.string ⟨t.2.toArray⟩])
 |[],_=>rfl
 |t::ts,h=>by
  obtain⟨h1,h2⟩:=h t (bK ..);exact⟨_,_,rfl,⟨_,_,rfl,⟨rfl,by omega⟩,⟨rfl,by omega⟩⟩,Gq λu hu=>h u (cz _ hu)⟩
def Qu (us:List Fd):Prop:=us.Pairwise λa b=>¬Lib.compareBytes (cN b) (cN a)<0
theorem Ca {base:Nat} {v:Value} {ts:List Fd} (w0:World) (ho:Own RT.fd 24 (mI v) w0 base v ts) (hT:∀t∈ts,(0:UInt8)∉t.1/\t.1.length<=1000000/\t.2.length<=1000000) (hl:ts.length<=100000000):
  Spec Tryz.prog 186 #[v,.func (.func 146) #[] #[]] w0 (λr w=>r= .tuple #[]/\∃us:List Fd,us.Perm ts/\Qu us/\Own RT.fd 24 (mI v) w base v us/\Step allM w0 allM w (mI v)):=by
 obtain⟨⟨C,⟨hC,hr⟩,hA⟩,hm⟩:=ho;rcases hr with⟨rfl,h0⟩|⟨g,cap,cur,rfl,hb,hg,hle,hmx,hcz,L0⟩
 ·have OT:ts=[]:=dI.1 h0;subst OT;exact(AnyF.slices_SortFunc_none Tryz.Qs none 0 _ w0).mono λe w' ⟨h1,h2⟩=>⟨_,h1,rfl,[],.refl _,List.Pairwise.nil,eE _ _ _ _ _,by rw[h2];exact(Step.refl allM w0).dF a15 (λ_ _=>trivial)⟩
 ·obtain⟨d,hd⟩:∃d:Array TK,d.toList.map (·.1)=ts:=⟨(ts.attach.map λx=>(⟨x.1,hT x.1 x.2⟩:TK)).toArray,by rw[List.toList_toArray,BN];exact List.attach_map_subtype_val ts⟩;have lP:d.size=ts.length:=by rw[<-hd];simp
  have hk:∀x:TK,(B7 x).length=2:=λ_=>rfl
  have ZI:∀l:List TK,(l.map (·.1)).flatMap (λt:Fd=>[Value.string ⟨t.1.toArray⟩,.string ⟨t.2.toArray⟩])=l.flatMap B7:=λl=>by rw[List.flatMap_map];rfl
  have hH:HoldsK B7 2 w0 g 0 d:=MW hk q0 hg (by
   have e2:RT.fd.n=2:=rfl;rw[e2]at L0;rw[lP,L0,K3 hA,<-hd,ZI])
  have hs:=aeK g 0 cap d w0 hH (ae hg) q0;rw[lP]at hs;refine hs.mono λr w' ⟨h1,n,os,h2⟩=>⟨h1,(d.toList.mergeSort λx y=> !(ltOf Ol) y x).map (·.1),?_,?_,?_,?_⟩
  ·rw[<-hd];exact(List.mergeSort_perm _ _).map _
  ·refine eu.2 ((List.pairwise_mergeSort (λa b c h1 h2=>?_) (λa b=>?_) _).imp λh=>?_)
   ·simp only[ltOf,tA,decide_eq_false_iff_not]at*
    have:=(K2 λx:TK=>cN x.1).ntrans c b a (by simpa[ltOf,Ol]using h2) (by simpa[ltOf,Ol]using h1);simpa[ltOf,Ol]using this
   ·simp only[ltOf,Bool.or_eq_true,tA,decide_eq_false_iff_not];have:=pK (cN a.1) (cN b.1);unfold Ol;omega
   ·rw[tA]at h;exact of_decide_eq_false h
  ·have hp:=List.mergeSort_perm d.toList λx y=> !(ltOf Ol) y x
   rw[h2];generalize (d.toList.mergeSort λx y=> !(ltOf Ol) y x)=us at hp;have hul:(us.map (·.1)).length=ts.length:=by rw[bT,hp.length_eq,Array.length_toList,lP]
   have EW:us.toArray.size*2=ts.length*2:=by rw[<-hul];simp
   have e2:RT.fd.n=2:=rfl;refine⟨⟨(us.map (·.1)).flatMap (λt:Fd=>[Value.string ⟨t.1.toArray⟩,.string ⟨t.2.toArray⟩]),⟨?_,.inr ⟨g,cap,_,by rw[hul],hb,B8 hg,by rw[hul];exact hle,hmx,by rw[<-hcz];simp[putCells],?_⟩⟩,Gq λt ht=>?_⟩,hm⟩
   ·rw[ZI,ry hk,bT,e2]
   ·rw[ZI,hul,e2,<-EW,<-size_flatK B7,B9 (by rw[size_flatK,EW,hcz,e2];omega),Ee hk q0]
   ·obtain⟨x,_,rfl⟩:=cu.1 ht;exact x.2.2
  ·rw[h2];exact yV.dF (λb hb=>by have hb:b=g:=hb;subst hb;rfl) (λ_ _=>trivial)
end Go.K
namespace Go.K
open Go.Proofs
set_option maxRecDepth 10000
theorem Gr {bs mb clock:Nat} {es:List MapEntry} (w0:World) (hk:K0 es) (hT:∀e∈es,∀t,e.key=kv t->(0:UInt8)∉t.1/\t.1.length<=1000000/\t.2.length<=1000000) (hes:es.length<=100000000) (hlen:∀ts:List Fd,ts.Nodup->(∀t∈ts,∃e∈es,e.key=kv t)->ts.length<=100000000) (U3:w0.heap[bs]? =some (.cells #[.map (some mb)] 238 (0,0))) (hW:gx Tryz.prog 24 w0 mb es clock):
  Spec Tryz.prog 144 #[.func (.func 187) #[] [.pointer (some ⟨bs,0,none⟩)].toArray,.func (.func 146) #[] #[]] w0 (λv w=>∃us:List Fd,us.Nodup/\(∀t,t∈us↔∃e∈es,e.key=kv t)/\Qu us/\Own RT.fd 24 (mI v) w w0.heap.size v us/\Step allM w0 allM w ar):=by
 refine aS (args:=[_,_]) (fn:=Tryz.f144) Tryz.func144 G (n:=12) Tryz.ntmps144 (T.aO (Rg.aZ G G (T.aO (ab G G ?_))));refine aJ G G akg (Ec _ hk hes U3 hW) (λv1 w1 hc=>?_);obtain⟨ts,lU,mL,ho,s1⟩:=hc;refine Rg.aZ G G (T.aO (ab G G (ab G G ?_)));refine aJ rfl rfl akh (Ca _ ho (λt ht=>by obtain⟨e,he,Qp⟩:=(mL t).1 ht;exact hT e he t Qp) (hlen ts lU λt ht=>(mL t).1 ht)) (λr2 w2 hc=>?_);obtain⟨rfl,us,hp,X7,hou,s2⟩:=hc;refine ad (T.aO (ab G G (Rg.aZ G G (aM ?_))));exact aP G G ⟨us,hp.nodup_iff.2 lU,λt=>hp.mem_iff.trans (mL t),X7,hou,s1.trans s2 (λk hk hn=>by have:=(ho.base k hn).1;omega)⟩
theorem Jm {mb:Nat} (w0:World):
  Spec Tryz.prog 145 #[.map (some mb)] w0 (λv w=>∃bs,v= .func (.func 187) #[] [.pointer (some ⟨bs,0,none⟩)].toArray/\w.heap[bs]? =some (.cells #[.map (some mb)] 238 (0,0))/\w0.heap.size<=bs/\Step allM w0 allM w ar):=by
 refine aS (args:=[_]) (fn:=Tryz.f145) Tryz.func145 G (n:=4) Tryz.ntmps145 (T.aO ?_);refine iP allM G G (λbs w1 ua Ih gs s1=>?_);change w1.heap[bs]? =some (.cells #[.map (some mb)] 238 (0,0))at gs;replace s1:=s1.all;refine Rg.aZ G G (T.aO (gz (xs:=[]) (ys:=[.tmp 1]) G G G (Rg.aZ G G (aM ?_))));exact aP G G ⟨bs,G,gs,ua,s1⟩
def posOf (ts:List (Fd×Nat)) (t:Fd):List Int:=(ts.filter λp=>decide (p.1=t)).map λp=>(p.2:Int)
def seen (ts:List (Fd×Nat)):List Fd:=ts.foldl (λl p=>if p.1∈l then l else l++[p.1]) []
theorem MX (ts:List (Fd×Nat)) (t:Fd) (i:Nat):seen (ts++[(t,i)])=if t∈seen ts then seen ts else seen ts++[t]:=by unfold seen;rw[tz];rfl
theorem AN (ts:List (Fd×Nat)) (t t':Fd) (i:Nat):posOf (ts++[(t,i)]) t'=if t=t' then posOf ts t'++[(i:Int)]else posOf ts t':=by
 unfold posOf;rw[fp];by_cases h:t=t'<;>simp[h]
theorem xI (ts:List (Fd×Nat)) (t:Fd):(posOf ts t).length<=ts.length:=by
 unfold posOf;rw[bT];exact fI _ _
abbrev kY:Value:= .slice none 0 0
structure MY (M:aE) (w:World) (B:Nat) (ts:List (Fd×Nat)) (es:List MapEntry):Prop where
 o:∀t v,eU kY es (kv t) v->Own (RT.int .i64) 3 M w B v (posOf ts t)
 a:∀t t' v v',t≠t'→eU kY es (kv t) v->eU kY es (kv t') v'→kR v v'
 k:es.map (·.key)=(seen ts).map kv
theorem MY.bD {M M':aE} {w w':World} {B:Nat} {ts:List (Fd×Nat)} {es:List MapEntry} (h:MY M w B ts es) (s:Step M w M' w' ar):MY M' w' B ts es:=⟨λt v hv=>(h.o t v hv).bD s,h.a,h.k⟩
def IJ (bt mb B:Nat) (ts:List (Fd×Nat)) (M:aE) (w:World):Prop:=w.heap[bt]? =some (.cells #[.map (some mb)] 238 (0,0))/\M bt/\M mb/\B<=bt/\B<=mb/\∃es clock,gx Tryz.prog 24 w mb es clock/\MY M w B ts es
theorem Own.kZ {α:Type} {A:RT α} {e:TypeId} {M:aE} {w:World} {base b c:Nat} {a:Array MapEntry} {v:Value} {xs:List α} (h:Own A e M w base v xs) (hb:w.heap[b]? =some (.map a c)):v.ownBlock≠some b:=λhv=>by
 obtain⟨⟨C,h1,_⟩,_⟩:=h;rcases h1.2 with⟨h2,_⟩|⟨g,cap,cur,h2,_,h3,_⟩
 ·rw[h2]at hv;cases hv
 ·rw[h2]at hv;cases hv;rw[h3]at hb;cases hb
theorem vI {ts:List (Fd×Nat)} {es:List MapEntry} {t:Fd} (hk:es.map (·.key)=(seen ts).map kv):(∃e∈es,e.key=kv t)↔t∈seen ts:=by
 constructor
 ·rintro⟨e,he,h⟩;have:kv t∈(seen ts).map kv:=by rw[<-hk,<-h];exact gw he
  obtain⟨t',h1,h2⟩:=cu.1 this;rw[<-xG h2];exact h1
 ·intro h;have:kv t∈es.map (·.key):=by rw[hk];exact gw h
  obtain⟨e,h1,h2⟩:=cu.1 this;exact⟨e,h1,h2⟩
theorem MZ {M:aE} {bt mb B:Nat} {ts:List (Fd×Nat)} {t:Fd} {i:Nat} (w0:World) (hM:Lt M w0) (h1:t.1.length<=900000) (h2:t.2.length<=140737488355328) (hi:i<=1000000) (OT:ts.length<=10000000) (hJ:IJ bt mb B ts M w0):
  Spec Tryz.prog 143 #[kv t,.int .i64 (i:Int),.pointer (some ⟨bt,0,none⟩)] w0 (λv w=>∃M',Lt M' w/\IJ bt mb B (ts++[(t,i)]) M' w/\Step M w0 M' w (lX M B)):=by
 obtain⟨gb,eI,fL,hB,K4,es,clock,hW,hI⟩:=hJ;refine aS (args:=[_,_,_]) (fn:=Tryz.f143) Tryz.func143 G (n:=13) Tryz.ntmps143 ?_;have S:Step M w0 M w0 (lX M B):=(aV).dF a15 (λ_ h=>h.2);refine T.aO ?_;refine Rg.iI (A:=RT.fd) G G hM (D9 q0 h2) G (λu0 w1 dB s0 _=>?_);have:=ae gb;replace eI:=(s0.mem _ this).2 eI;replace gb:=s0.ay gb;replace fL:=(s0.mem _ (ae hW.at_)).2 fL;replace hW:=hW.bD s0;replace hI:=hI.bD s0;replace hM:=s0.lt hM;have:=S.size;replace S:=S.av s0;refine ad (aN (aA me G G G a00 G ?_));refine bZ (A:=RT.fd) bR G nE XT G G G dB b4 (λv1 nu=>?_);obtain rfl:=j9 nu;refine ab G G ?_;refine fm (A:=RT.int .i64) (hn:=by decide) (M:=M) ao I3 XT G G hM (iG q0) (.inr ⟨G,G⟩) (λUP BY kH s1_3=>?_);have:=ae gb;replace eI:=(s1_3.mem _ this).2 eI;replace gb:=s1_3.ay gb;replace dB:=dB.le XT s1_3.le;replace fL:=(s1_3.mem _ (ae hW.at_)).2 fL;replace hW:=hW.bD s1_3;replace hI:=hI.bD s1_3;replace hM:=s1_3.lt hM;have:=S.size;replace S:=S.av s1_3;obtain⟨kl,Im⟩:=Ql t q0 h2;refine Rg.mapEntry (M:=M) (zv:=kY) me CY l4 G G G Im hW fL (λw4 es4 cl4 v s hW4 hv mL Gt Fj s4=>?_);have hmo:∀t v,eU kY es (kv t) v->v.ownBlock≠some mb:=λt v h=>(hI.o t v h).kZ hW.at_
 have W7:bt≠mb:=λe=>by subst e;have:=hW.at_;rw[gb]at this;cases this
 replace hI:MY M w4 B ts es:=⟨λt v hv=>(hI.o t v hv).step s4 (λb hb hk=>hmo t v hv (by have hk:b=mb:=hk;rw[<-hk];exact hb)),hI.a,hI.k⟩;have aeN:=(s4.mem _ (ae hW.at_)).2 fL;replace eI:=(s4.mem _ (ae gb)).2 eI;replace gb:=s4.bL gb W7;replace kH:=kH.le s4.le;replace hM:=s4.lt hM;have hmM:∀b,b<w0.heap.size->M b->M b:=λb hb h=>(S.mem b hb).1 h
 have hz0:=S.size;replace S:=S.trans s4 (λk hk h=>by have h:k=mb:=h;subst h;exact⟨K4,hmM k hk fL⟩);have th:=hI.o t v hv;have yo:=xI ts t;refine b9 G G G ?_;refine Rg.nw (M:=M) (base:=B) ao I3 rfl rfl rfl rfl th kH b4 a13 a13 (by have:=ae gb;omega) (λv6 w6 C0 s6 hF=>?_);have hblk:∀b,lW v b->B<=b/\M b:=λb h=>⟨(th.base b h).1,th.mut_ b h⟩
 have U5:∀t' v',t'≠t->eU kY es (kv t') v'→kR v' v:=λt' v' fw sM=>hI.a t' t v' v fw sM hv
 have U6:∀t' v',t'≠t->eU kY es (kv t') v'→Own (RT.int .i64) 3 (mu M v6) w6 B v' (posOf ts t'):=λt' v' fw sM=>(hI.o t' v' sM).step s6 (λb hb hk=>U5 t' v' fw sM b hb hk)
 have lP:∀t' v',eU kY es (kv t') v'→∀b,v'.ownBlock=some b->b<w4.heap.size:=λt' v' sM b hb=>((hI.o t' v' sM).base b hb).2
 have Qv:∀t' v',t'≠t->eU kY es (kv t') v'→kR v6 v':=λt' v' fw sM=>(U5 t' v' fw sM).symm.grown hF (lP t' v' sM)
 have alT:v.ownBlock≠some mb:=th.kZ hW4.at_;have Qw:=(s6.mem _ (ae hW4.at_)).2 aeN;replace hW4:=hW4.step s6 alT;replace eI:=(s6.mem _ (ae gb)).2 eI;replace gb:=s6.bL gb (λh=>th.fk gb XT h);replace hM:=s6.lt hM;have alU:∀b,b<w0.heap.size->M b->M b:=λb hb h=>(S.mem b hb).1 h
 replace S:=S.trans s6 (λk hk h=>⟨(hblk k h).1,alU k hk (hblk k h).2⟩);refine b9 G G G ?_;have aeO:=hW4.at_;refine Rg.entryStore G G G hW4 Qw mL (λw8 es8 hW8 qf aeP s8=>?_);have hm8:v6.ownBlock≠some mb:=C0.kZ aeO;replace C0:=C0.step s8 (λb hb hk=>hm8 (by have hk:b=mb:=hk;rw[<-hk];exact hb));have aeQ:∀t' v',t'≠t->eU kY es (kv t') v'→Own (RT.int .i64) 3 _ w8 B v' (posOf ts t'):=λt' v' fw sM=>(U6 t' v' fw sM).step s8 (λb hb hk=>hmo t' v' sM (by have hk:b=mb:=hk;rw[<-hk];exact hb))
 have aeR:=(s8.mem _ (ae aeO)).2 Qw;refine ad ?_
 first|refine iA.nil ?_|simp+decide only[wY,mi,if_true,if_false]|skip
 replace eI:=(s8.mem _ (ae gb)).2 eI;replace gb:=s8.bL gb W7;replace hM:=s8.lt hM;replace S:=S.trans s8 (λk hk h=>by have h:k=mb:=h;subst h;exact⟨K4,(S.mem k hk).1 Qw⟩)
 have ti:∀t1 v1,eU kY es8 (kv t1) v1->(t1=t/\v1=v6)\/(t1≠t/\eU kY es (kv t1) v1):=λt1 v1 nu=>by
  rcases(aeP kY (kv t1) v1).1 nu with⟨h3,h4⟩|⟨h3,h4⟩
  ·exact .inl ⟨xG h3,h4⟩
  ·exact .inr ⟨λe=>h3 (by rw[e];rfl),(Gt (kv t1) v1).1 h4⟩
 refine jB G ⟨_,hM,⟨gb,eI,aeR,hB,K4,es8,_,hW8,⟨λt1 v1 nu=>?_,λt1 t2 v1 v2 fw nu E5=>?_,?_⟩⟩,S⟩
 ·rcases ti t1 v1 nu with⟨rfl,rfl⟩|⟨h3,h4⟩
  ·rw[AN,if_pos rfl];exact C0
  ·rw[AN,if_neg (λe=>h3 e.symm)];exact aeQ t1 v1 h3 h4
 ·rcases ti t1 v1 nu with⟨rfl,rfl⟩|⟨h3,h4⟩
  ·rcases ti t2 v2 E5 with⟨rfl,_⟩|⟨h5,h6⟩
   ·exact absurd G fw
   ·exact Qv t2 v2 h5 h6
  ·rcases ti t2 v2 E5 with⟨rfl,rfl⟩|⟨h5,h6⟩
   ·exact(Qv t1 v1 h3 h4).symm
   ·exact hI.a t1 t2 v1 v2 fw h4 h6
 ·rw[qf,MX];rcases Fj with⟨h3,h4⟩|⟨h3,h4⟩
  ·rw[h3,hI.k,if_pos ((vI hI.k).1 h4)]
  ·rw[h3,hI.k,if_neg (λh=>by obtain⟨e,he,hk⟩:=(vI hI.k).2 h;exact h4 e he hk)];simp[kv]
end Go.K
namespace Go.K
open Go.Maps (Keyed)
open Go.Lib (compareBytes)
theorem Gu:∀a b:List UInt8,Op.bytesLess a b=decide (compareBytes a b<0)
 |[],[]=>by simp[Op.bytesLess,compareBytes]
 |_::_,[]=>by simp[Op.bytesLess,compareBytes]
 |[],_::_=>by simp[Op.bytesLess,compareBytes]
 |a::x,b::y=>by
  rw[Op.bytesLess,Gu x y,oX];by_cases h1:a.toNat<b.toNat
  ·simp[UInt8.lt_iff_toNat_lt,h1]
  ·by_cases h2:b.toNat<a.toNat
   ·have: ¬a=b:=λe=>by subst e;omega
    simp[UInt8.lt_iff_toNat_lt,h1,h2,this]
   ·have:a=b:=UInt8.toNat_inj.1 q0;simp[UInt8.lt_iff_toNat_lt,h1,h2,this]
theorem rz (a b:List UInt8):compareBytes a b<0↔a<b:=by
 have h:=Gu a b;rw[Go.Proofs.bytesLess_eq]at h;exact(decide_eq_decide.1 h).symm
theorem kI (a:List UInt8): ¬a<a:=λh=>by have:=(rz a a).2 h;rw[AK]at this;omega
theorem oY {a b c:List UInt8} (h:a<b) (h':b<c):a<c:=(rz _ _).1 (rU ((rz _ _).2 h) ((rz _ _).2 h'))
theorem nG (a b:List UInt8):a<b\/a=b\/b<a:=by
 rcases Int.lt_trichotomy (compareBytes a b) 0 with h|h|h
 ·exact .inl ((rz _ _).1 h)
 ·exact .inr (.inl (rv h))
 ·exact .inr (.inr ((rz _ _).1 (by rw[pK];omega)))
theorem kJ {a b:List UInt8} (h:a<b): ¬b<a:=λh'=>kI a (oY h h')
theorem Jn {a b:List UInt8}:a<=b↔¬b<a:=Iff.rfl
section
variable {P:Program} {r:Option Nat} {n:Nat} {L:Sl} {ds:List Deferred} {w:World} {K:Kt} {ops:Array Oper} {rest:List Oper} {d:Nat} {x y:Operand} {ty:TypeId} {pos:String} {af:Array Edge}
theorem Rg.alV {t t':TypeId} {p q:List UInt8} (hx:ev L x=some (.string ⟨p.toArray⟩)) (hy:ev L y=some (.string ⟨q.toArray⟩)) (hd:Nat.blt d n=true)
  (k:Rg P r n ops rest ((d,.bool (decide (q<p)))::L) ds w K):
  Rg P r n ops ({dst:=some d,op:= .binOp .gtr t x y t',type:=ty,pos,after:=af,guard:=none}::rest) L ds w K:=
 .op a06 rfl rfl hd _ w (λρ h=>by
  have e:(!(decide (p<q)||p==q))=decide (q<p):=by
   rcases nG p q with h|h|h
   ·simp[h,kJ h]
   ·subst h;simp[kI]
   ·have: ¬p=q:=λe=>by subst e;exact kI p h
    simp[h,kJ h,this]
  simp only[execOp];rw[h x _ hx,h y _ hy];simp only[binOp,Op.stringOp,kC,Go.Proofs.bytesLess_eq,e];simp[eqGuard]) k
theorem Rg.ZJ {t t':TypeId} {p q:List UInt8} (hx:ev L x=some (.string ⟨p.toArray⟩)) (hy:ev L y=some (.string ⟨q.toArray⟩)) (hd:Nat.blt d n=true)
  (k:Rg P r n ops rest ((d,.bool (decide (¬p<q)))::L) ds w K):
  Rg P r n ops ({dst:=some d,op:= .binOp .geq t x y t',type:=ty,pos,after:=af,guard:=none}::rest) L ds w K:=
 .op a06 rfl rfl hd _ w (λρ h=>by
  have e:(!decide (p<q))=decide (¬p<q):=by by_cases h:p<q<;>simp[h]
  simp only[execOp];rw[h x _ hx,h y _ hy];simp only[binOp,Op.stringOp,kC,Go.Proofs.bytesLess_eq,e];simp[eqGuard]) k
theorem Rg.ZK {t t':TypeId} {p q:List UInt8} (hx:ev L x=some (.string ⟨p.toArray⟩)) (hy:ev L y=some (.string ⟨q.toArray⟩)) (hd:Nat.blt d n=true)
  (k:Rg P r n ops rest ((d,.bool (decide (¬q<p)))::L) ds w K):
  Rg P r n ops ({dst:=some d,op:= .binOp .leq t x y t',type:=ty,pos,after:=af,guard:=none}::rest) L ds w K:=
 .op a06 rfl rfl hd _ w (λρ h=>by
  have e:(decide (p<q)||p==q)=decide (¬q<p):=by
   rcases nG p q with h|h|h
   ·simp[h,kJ h]
   ·subst h;simp[kI]
   ·have: ¬p=q:=λe=>by subst e;exact kI p h
    simp[h,kJ h,this]
  simp only[execOp];rw[h x _ hx,h y _ hy];simp only[binOp,Op.stringOp,kC,Go.Proofs.bytesLess_eq,e];simp[eqGuard]) k
end
abbrev Ef (l:List (List UInt8)):Prop:=l.Pairwise (· < ·)
theorem Na {ss:List (List UInt8)} (h:ss.Nodup):Ef (ss.mergeSort λx y=>decide (x<=y)):=by
 have h1:(ss.mergeSort λx y=>decide (x<=y)).Pairwise (λx y=>decide (x<=y)=true):=List.pairwise_mergeSort (λa b c h1 h2=>by
  simp only[decide_eq_true_eq,Jn]at h1 h2 ⊢;intro h3;rcases nG a b with h|h|h
  ·exact h2 (oY h3 h)
  ·subst h;exact h2 h3
  ·exact h1 h) (λa b=>by
  simp only[Bool.or_eq_true,decide_eq_true_eq,Jn];rcases nG a b with h|h|h
  ·exact .inl (kJ h)
  ·subst h;exact .inl (kI a)
  ·exact .inr (kJ h)) ss
 have h2:(ss.mergeSort λx y=>decide (x<=y)).Nodup:=(List.mergeSort_perm ss _).nodup_iff.2 h;refine (h1.and h2).imp ?_;rintro a b ⟨h3,h4⟩;simp only[decide_eq_true_eq,Jn]at h3;rcases nG a b with h|h|h
 ·exact h
 ·exact absurd h h4
 ·exact absurd h h3
theorem Ef.nodup {l:List (List UInt8)} (h:Ef l):l.Nodup:=h.imp λ{a b} h e=>by subst e;exact kI a h
theorem Qx {α:Type} {R:α->α->Prop} (hR:∀a b,R a b->R b a->a=b) {l l':List α} (h:l.Pairwise R) (h':l'.Pairwise R) (hn:l.Nodup) (W3:l'.Nodup) (hm:∀x,x∈l↔x∈l'):l=l':=
 List.Perm.eq_of_pairwise (λa b _ _ h1 h2=>hR a b h1 h2) h h' ((List.perm_ext_iff_of_nodup hn W3).2 hm)
theorem ZL {l l':List (List UInt8)} (h:Ef l) (h':Ef l') (hm:∀x,x∈l↔x∈l'):l=l':=
 Qx (λa b h1 h2=>absurd h2 (kJ h1)) h h' h.nodup h'.nodup hm
abbrev sv (k:List UInt8):Value:= .string ⟨k.toArray⟩
theorem Eg {a b:List UInt8} (h:sv a=sv b):a=b:=by simpa[sv]using h
def Jo:Value->Option (DU×List MemPlace):=λ_=>some (.nil,[])
theorem gx.alW {P:Program} {kt:TypeId} {M:aE} {w:World} {b:Nat} {es:List MapEntry} {clock:Nat} (hk:P.underlying kt=some .string) (h:gx P kt w b es clock) (hm:M b) (hl:es.length<=maxLen) (ks:List (List UInt8)) (U7:es.map (·.key)=ks.map sv):
  ∃m:List (Lit×DU),lM P kt Jo M w b m/\(strKeys (DataW.map m)).Perm ks/\m.length=ks.length:=by
 have hF:Go.WideElems.Fit P kt Jo es.toArray clock:=by
  refine⟨by simpa using hl,⟨λx hx=>h.lt x af1,?_,?_⟩,λx hx=>?_⟩
  ·simpa[List.Nodup,eu]using h.born
  ·simpa[List.Nodup,eu]using h.keys
  ·obtain⟨l,hl⟩:=h.ok x af1;exact⟨(l,.nil),by simp[Go.WideElems.rd,hl,Jo]⟩
 have hp:=Go.WideShapes.sorted_perm (es.toArray.toList.map (Go.WideElems.rg P kt Jo));have hlen:(List.foldr DataW.insert [] (es.toArray.toList.map (Go.WideElems.rg P kt Jo))).length=es.length:=by rw[hp.length_eq];simp
 refine⟨_,⟨hm,es.toArray,clock,h.at_,hF,by rw[hlen];simp,rfl⟩,?_,?_⟩
 ·refine (hp.map λp=>strOf p.1).trans ?_;rw[BN]
  have e:es.toArray.toList.map ((λp=>strOf p.1)∘Go.WideElems.rg (H:=Unit) P kt Jo)=ks:=by
   refine kn λi=>?_
   have hi:=congrArg (·[i]?) U7;simp only[cD]at hi ⊢
   cases he:es[i]? with
   |none=>
    rw[he]at hi
    cases alX:ks[i]? with
    |none=>simp[he]
    |some a=>rw[alX]at hi;cases hi
   |some e=>
    rw[he]at hi;obtain⟨l,hl⟩:=h.ok e (ax he);obtain⟨s,hs,h1⟩:=tu.1 hi.symm;obtain⟨z,hz1,hz2,_⟩:=Maps.keyOf_str hk hl;have:z=s:=Eg (hz1.symm.trans (by simpa using h1.symm));subst this;simp[he,hs,Go.WideElems.rg,Go.WideElems.rd,hl,Jo,hz2,strOf]
  rw[e]
 ·rw[hlen];have:=congrArg List.length U7;simpa using this
end Go.K
namespace Go.K
open Go.Lib (compareBytes)
def rA {α:Type} [DecidableEq α] (key:α->List UInt8) (t:α):List α->List α
 |[]=>[t]
 |u::l=>if key t<key u then t::u::l else if u=t then u::l else u::rA key t l
theorem rV {α:Type} [DecidableEq α] {key:α->List UInt8} {t x:α}:∀{l:List α},x∈rA key t l↔x=t\/x∈l
 |[]=>by simp[rA]
 |u::l=>by
  unfold rA
  split
  ·simp
  ·split
   ·rename_i h;subst h;simp
   ·rw[cU,rV (l:=l),cU];constructor
    ·rintro(h|h|h)
     ·exact .inr (.inl h)
     ·exact .inl h
     ·exact .inr (.inr h)
    ·rintro(h|h|h)
     ·exact .inr (.inl h)
     ·exact .inl h
     ·exact .inr (.inr h)
abbrev Eh {α:Type} (key:α->List UInt8) (l:List α):Prop:=l.Pairwise λa b=>key a<key b
theorem Gv {α:Type} [DecidableEq α] {key:α->List UInt8} {t:α}:∀{l:List α},(∀u∈l,key u=key t->u=t)->Eh key l->Eh key (rA key t l)
 |[],_,_=>by simp[rA]
 |u::l,hi,h=>by
  have h':=eV.1 h;unfold rA
  split
  ·rename_i eZ
   refine eV.2 ⟨λx hx=>?_,h⟩;rcases cU.1 hx with rfl|hx
   ·exact eZ
   ·exact oY eZ (h'.1 x hx)
  ·rename_i eZ
   split
   ·exact h
   ·rename_i fw
    have hut:key u<key t:=by
     rcases nG (key u) (key t)with h1|h1|h1
     ·exact h1
     ·exact absurd (hi u (bK ..) h1) fw
     ·exact absurd h1 eZ
    refine eV.2 ⟨λx hx=>?_,Gv (λv hv=>hi v (cz _ hv)) h'.2⟩;rcases rV.1 hx with rfl|hx
    ·exact hut
    ·exact h'.1 x hx
def allBy {α:Type} [DecidableEq α] (key:α->List UInt8) (l:List α):List α:=l.foldl (λa t=>rA key t a) []
theorem vJ {α:Type} [DecidableEq α] {key:α->List UInt8} {S:α->Prop} (hS:∀a b,S a->S b->key a=key b->a=b):∀(l a:List α),(∀x∈l,S x)->(∀x∈a,S x)->Eh key a->
  Eh key (l.foldl (λa t=>rA key t a) a)/\∀x,x∈l.foldl (λa t=>rA key t a) a↔x∈a\/x∈l
 |[],a,_,_,h=>⟨h,λx=>by simp⟩
 |t::l,a,hl,ha,h=>by
  have ht:=hl t (bK ..)
  obtain⟨h1,h2⟩:=vJ hS l (rA key t a) (λx hx=>hl x (cz _ hx)) (λx hx=>by
   rcases rV.1 hx with rfl|hx
   ·exact ht
   ·exact ha x hx) (Gv (λu hu e=>hS _ _ (ha u hu) ht e) h)
  refine ⟨h1,λx=> ?_⟩;rw[List.foldl_cons,h2,rV,cU];constructor
  ·rintro((h|h)|h)
   ·exact .inr (.inl h)
   ·exact .inl h
   ·exact .inr (.inr h)
  ·rintro(h|h|h)
   ·exact .inl (.inr h)
   ·exact .inl (.inl h)
   ·exact .inr h
theorem Eh.nodup {α:Type} {key:α->List UInt8} {l:List α} (h:Eh key l):l.Nodup:=h.imp λ{a b} h e=>by subst e;exact kI _ h
abbrev Om (t:Fd):Prop:=(0:UInt8)∉t.1
theorem vK {a b:Fd} (ha:Om a) (hb:Om b) (h:cN a=cN b):a=b:=by
 obtain⟨h1,h2⟩:=AL ha hb h;exact Prod.ext h1 h2
def dQ (tl:List (Fd×Nat)):List Fd:=allBy cN (tl.map (·.1))
theorem vL {tl:List (Fd×Nat)} (hz:∀p∈tl,Om p.1):Eh cN (dQ tl):=
 (vJ (S:=Om) (λ_ _=>vK) _ [] (λx hx=>by obtain⟨p,hp,rfl⟩:=cu.1 hx;exact hz p hp) (λx h=>by cases h) List.Pairwise.nil).1
theorem jg {tl:List (Fd×Nat)} (hz:∀p∈tl,Om p.1) {t:Fd}:t∈dQ tl↔t∈tl.map (·.1):=by
 have:=(vJ (S:=Om) (key:=cN) (λ_ _=>vK) (tl.map (·.1)) [] (λx hx=>by obtain⟨p,hp,rfl⟩:=cu.1 hx;exact hz p hp) (λx h=>by cases h) List.Pairwise.nil).2 t;simpa[dQ,allBy]using this
theorem K5 (t:Fd):∀(ts:List (Fd×Nat)) (l:List Fd),t∈ts.foldl (λl p=>if p.1∈l then l else l++[p.1]) l↔t∈l\/t∈ts.map (·.1)
 |[],l=>by simp
 |p::ts,l=>by
  rw[List.foldl_cons,K5 t ts,dC,cU]
  split
  ·rename_i h
   constructor
   ·rintro(h1|h1)
    ·exact .inl h1
    ·exact .inr (.inr h1)
   ·rintro(h1|h1|h1)
    ·exact .inl h1
    ·exact .inl (by rw[h1];exact h)
    ·exact .inr h1
  ·rw[dN,cO];constructor
   ·rintro((h1|h1)|h1)
    ·exact .inl h1
    ·exact .inr (.inl h1)
    ·exact .inr (.inr h1)
   ·rintro(h1|h1|h1)
    ·exact .inl (.inl h1)
    ·exact .inl (.inr h1)
    ·exact .inr h1
theorem vM {tl:List (Fd×Nat)} {t:Fd}:t∈seen tl↔t∈tl.map (·.1):=by unfold seen;rw[K5];simp
theorem Gw {tl:List (Fd×Nat)} {us:List Fd} (hz:∀p∈tl,Om p.1) (lU:us.Nodup) (mL:∀t,t∈us↔t∈seen tl) (X7:Qu us):us=dQ tl:=by
 have hm:∀t,t∈us↔t∈dQ tl:=λt=>by rw[mL,vM,jg hz]
 have jj:∀t∈dQ tl,Om t:=λt ht=>by obtain⟨p,hp,rfl⟩:=cu.1 ((jg hz).1 ht);exact hz p hp
 refine List.Perm.eq_of_pairwise (le:=λa b=>¬compareBytes (cN b) (cN a)<0) (λa b ha hb h1 h2=>?_) X7 ((vL hz).imp λ{a b} h h'=>kJ h ((rz _ _).1 h')) ((List.perm_ext_iff_of_nodup lU (vL hz).nodup).2 hm);rw[rz]at h1 h2;rcases nG (cN a) (cN b)with h|h|h
 ·exact absurd h h2
 ·exact vK (jj a ((hm a).1 ha)) (jj b hb) h
 ·exact absurd h h1
theorem pL (a b:List (Fd×Nat)) (t:Fd):posOf (a++b) t=posOf a t++posOf b t:=by simp[posOf]
theorem Qz {tl:List (Fd×Nat)} {t:Fd} (h:t∈tl.map (·.1)):posOf tl t≠[]:=by
 obtain⟨p,hp,rfl⟩:=cu.1 h;intro e;have:p∈tl.filter λq=>decide (q.1=p.1):=fy.2 ⟨hp,by simp⟩
 rw[List.map_eq_nil_iff.1 e]at this;cases this
theorem Nb {tl:List (Fd×Nat)} {t:Fd} (h:t∉tl.map (·.1)):posOf tl t=[]:=by
 unfold posOf;rw[List.filter_eq_nil_iff.2 λp hp=>by simp;intro e;exact h (cu.2 ⟨p,hp,e⟩)];rfl
theorem Gx (x:Fd) (t:Fd):(posOf (hY x) t).Sublist ((List.range' 0 (words x.2).length).map fun(i:Nat)=>(i:Int)):=by
 have e:(hY x).map (λp=>(p.2:Int))=(List.range' 0 (words x.2).length).map fun(i:Nat)=>(i:Int):=by
  rw[<-List.zipIdx_map_snd 0 (words x.2),BN];unfold hY;rw[BN];rfl
 rw[<-e];exact List.filter_sublist.map _
theorem Nc (x:Fd) (t:Fd):(posOf (hY x) t).Pairwise (· < ·)/\∀i∈posOf (hY x) t,0<=i/\i<(words x.2).length:=by
 refine ⟨List.Pairwise.sublist (Gx x t) (eu.2 ((List.pairwise_lt_range' (s:=0) (n:=(words x.2).length)).imp λh=>by omega)),λi hi=> ?_⟩;have:=(Gx x t).subset hi;obtain⟨k,hk,rfl⟩:=cu.1 this;have:=List.mem_range'_1.1 hk;omega
theorem C1 {x:Fd} {p:Fd×Nat} (h:p∈hY x):p.1.1=x.1/\p.1.2∈words x.2:=by
 obtain⟨q,hq,rfl⟩:=cu.1 h;have:=List.mem_zipIdx hq;exact⟨rfl,by simp only;rw[this.2.2];exact List.getElem_mem _⟩
theorem C2 {fs:List Fd} {p:Fd×Nat} (h:p∈cF fs):∃x∈fs,p.1.1=x.1/\p.1.2∈words x.2:=by
 obtain⟨x,hx,hp⟩:=List.mem_flatMap.1 h;exact⟨x,hx,C1 hp⟩
theorem uu {x t:Fd} (h:x.1≠t.1):posOf (hY x) t=[]:=Nb λhm=>by
 obtain⟨p,hp,rfl⟩:=cu.1 hm;exact h (C1 hp).1.symm
theorem xJ {t:Fd}:∀{fs:List Fd},(∀x∈fs,x.1≠t.1)->posOf (cF fs) t=[]
 |[],_=>rfl
 |x::fs,h=>by
  show posOf (hY x++cF fs) t=[];rw[pL,uu (h x (bK ..)),xJ λy hy=>h y (cz _ hy)];rfl
theorem Gy {t:Fd}:∀{fs:List Fd},(fs.map (·.1)).Nodup->posOf (cF fs) t=[]\/∃x∈fs,posOf (cF fs) t=posOf (hY x) t
 |[],_=> .inl rfl
 |x::fs,h=>by
  have h':=qG.1 h;have e:posOf (cF (x::fs)) t=posOf (hY x) t++posOf (cF fs) t:=by show posOf (hY x++cF fs) t=_;rw[pL]
  by_cases hx:x.1=t.1
  ·refine .inr ⟨x,bK ..,?_⟩;rw[e,xJ λy hy e=>h'.1 (by have h9:y.1∈fs.map (·.1):=gw hy;rw[e,<-hx]at h9;exact h9),fS]
  ·rw[e,uu hx,kd];rcases Gy (t:=t) h'.2 with h1|⟨y,hy,h1⟩
   ·exact .inl h1
   ·exact .inr ⟨y,cz _ hy,h1⟩
theorem Gz:∀{l:List Int} {last:Int},(∀x∈l,last<x)->l.Pairwise (· < ·)->gg last l=true
 |[],_,_,_=>rfl
 |x::l,last,h1,h2=>by
  have H0:=eV.1 h2;simp only[gg,cp,decide_eq_true_eq];exact⟨h1 x (bK ..),Gz H0.1 H0.2⟩
structure iQ (d:Dc):Prop where
 names:∀f∈d.2,fe f.1=true
 once:(d.2.map (·.1)).Nodup
 toks:∀f∈d.2,mO 0 (words f.2)=0
 many:(cF d.2).length<=500
 few:d.2.length<=8
theorem C3:∀{fs sn:List Fd} {n:Nat},B4 sn fs n=0->(∀f∈fs,fe f.1=true/\mO 0 (words f.2)=0/\∀g∈sn,g.1≠f.1)/\(fs.map (·.1)).Nodup/\n+(cF fs).length<=500
 |[],sn,n,h=>by
  refine ⟨(λf hf=>by cases hf),List.nodup_nil,?_⟩;simp only[B4]at h
  split at h
  ·cases h
  ·simp[cF];omega
 |f::fs,sn,n,h=>by
  simp only[B4]at h
  split at h
  ·cases h
  ·rename_i h1
   split at h
   ·cases h
   ·rename_i h2
    split at h
    ·exact absurd h a00
    ·rename_i h3
     obtain⟨h4,h5,h6⟩:=C3 h;have h7:∀g∈sn,g.1≠f.1:=λg hg e=>h2 (ou.2 ⟨g,hg,by simp[e]⟩)
     refine⟨λx hx=>?_,qG.2 ⟨λhm=>?_,h5⟩,?_⟩
     ·rcases cU.1 hx with rfl|hx
      ·exact⟨by simpa using h1,by simpa using h3,h7⟩
      ·obtain⟨a,b,c⟩:=h4 x hx;exact⟨a,b,λg hg=>c g (nS _ hg)⟩
     ·obtain⟨y,hy,e⟩:=cu.1 hm;exact(h4 y hy).2.2 f (List.mem_append_right _ (cO.2 G)) e.symm
     ·have:(cF (f::fs)).length=(hY f).length+(cF fs).length:=by show(hY f++cF fs).length=_;rw[bU]
      rw[this,oW];omega
theorem K6 {d:Dc} (h:nt d=0):iQ d:=by
 unfold nt at h
 split at h
 ·cases h
 ·obtain⟨h1,h2,h3⟩:=C3 h;exact⟨λf hf=>(h1 f hf).1,h2,λf hf=>(h1 f hf).2.1,by omega,by omega⟩
theorem C4:∀{ws:List (List UInt8)} {i:Nat},mO i ws=0->∀x∈ws,x.length<=30
 |[],_,_,x,hx=>by cases hx
 |a::ws,i,h,x,hx=>by
  simp only[mO]at h
  split at h
  ·cases h
  ·split at h
   ·cases h
   ·rcases cU.1 hx with rfl|hx
    ·omega
    ·exact C4 h x hx
theorem QA {s:List UInt8} (h:fe s=true):(0:UInt8)∉s:=λh0=>by
 simp only[fe,cp,eA]at h;have:=h.2 0 h0
 revert this;decide
theorem iQ.K7 {d:Dc} (h:iQ d):∀p∈cF d.2,Om p.1:=λp hp=>by
 obtain⟨x,hx,h1,_⟩:=C2 hp;show(0:UInt8)∉p.1.1;rw[h1];exact QA (h.names x hx)
theorem iQ.small {d:Dc} (h:iQ d):∀p∈cF d.2,p.1.1.length<=12/\p.1.2.length<=30:=λp hp=>by
 obtain⟨x,hx,h1,h2⟩:=C2 hp;exact⟨by rw[h1];exact Gd (h.names x hx),C4 (h.toks x hx) _ h2⟩
theorem iQ.pos {d:Dc} (h:iQ d) (t:Fd):(posOf (cF d.2) t).Pairwise (· < ·)/\(∀i∈posOf (cF d.2) t,0<=i/\i<500)/\(posOf (cF d.2) t).length<=500:=by
 have hl:=xI (cF d.2) t;have hm:=h.many;rcases Gy (t:=t) h.once with h1|⟨x,hx,h1⟩
 ·rw[h1];exact⟨List.Pairwise.nil,(λi hi=>by cases hi),by simp⟩
 ·obtain⟨h2,h3⟩:=Nc x t
  have BR:(words x.2).length<=500:=by
   have:(hY x).length<=(cF d.2).length:=by
    obtain⟨i,hi⟩:=bG.1 hx;have:=ur hi
    have h5:(cF (d.2.take (i+1))).length<=(cF d.2).length:=by
     have:cF d.2=cF (d.2.take (i+1))++cF (d.2.drop (i+1)):=by unfold cF;rw[<-List.flatMap_append,List.take_append_drop]
     rw[this,bU];omega
    rw[this,bU]at h5;omega
   rw[oW]at this;omega
  rw[h1]at hl ⊢;exact⟨h2,λi hi=>⟨(h3 i hi).1,by have:=(h3 i hi).2;omega⟩,by omega⟩
theorem iQ.gg {d:Dc} (h:iQ d) (t:Fd):pw (posOf (cF d.2) t)=true:=by
 obtain⟨h1,h2,_⟩:=h.pos t;exact px.2 ⟨Gz (λx hx=>by have:=(h2 x hx).1;omega) h1,λx hx=>by have:=(h2 x hx).2;omega⟩
abbrev uL (e:En):List (Fd×Nat):=cF e.1.2
def Ei (i:Nat) (tl:List (Fd×Nat)) (k:List UInt8):List Po:=((dQ tl).filter λt=>decide (cN t=k)).map λt=>((i:Int),posOf tl t)
def BJ (k:List UInt8):Nat->List En->List Po
 |_,[]=>[]
 |i,e::L=>Ei i (uL e) k++BJ k (i+1) L
def pk (L:List En) (k:List UInt8):List Po:=BJ k 0 L
theorem GA (k:List UInt8) (e:En):∀(L:List En) (i:Nat),BJ k i (L++[e])=BJ k i L++Ei (i+L.length) (uL e) k
 |[],i=>by simp[BJ]
 |x::L,i=>by
  simp only[ov,BJ,GA k e L (i+1),mZ,cy];rw[show i+1+L.length=i+(L.length+1) by omega]
theorem U8 (L:List En) (e:En) (k:List UInt8):pk (L++[e]) k=pk L k++Ei L.length (uL e) k:=by
 unfold pk;rw[GA];simp
def jN (L:List En):List (List UInt8):=L.flatMap λe=>(dQ (uL e)).map cN
theorem Jp (L:List En) (e:En):jN (L++[e])=jN L++(dQ (uL e)).map cN:=by simp[jN]
def keysOf (L:List En):List (List UInt8):=allBy id (jN L)
theorem nH (L:List En):Ef (keysOf L):=(vJ (key:=id) (S:=λ_=>True) (λa b _ _ h=>h) _ [] (λ_ _=>trivial) (λ_ _=>trivial) List.Pairwise.nil).1
theorem mS {L:List En} {k:List UInt8}:k∈keysOf L↔k∈jN L:=by
 have:=(vJ (key:=id) (S:=λ_=>True) (λa b _ _ h=>h) (jN L) [] (λ_ _=>trivial) (λ_ _=>trivial) List.Pairwise.nil).2 k;simpa[keysOf,allBy]using this
theorem filter_one {α:Type} {key:α->List UInt8} {l:List α} (h:Eh key l) (k:List UInt8):l.filter (λt=>decide (key t=k))=[]\/∃t∈l,key t=k/\l.filter (λt=>decide (key t=k))=[t]:=by
 have h1:Eh key (l.filter λt=>decide (key t=k)):=List.Pairwise.sublist List.filter_sublist h;have h2:∀x∈l.filter (λt=>decide (key t=k)),x∈l/\key x=k:=λx hx=>by simpa using fy.1 hx
 revert h1 h2
 generalize l.filter (λt=>decide (key t=k))=m;intro h1 h2
 match m,h1,h2 with
 |[],_,_=>exact .inl rfl
 |[t],_,h2=>exact .inr ⟨t,(h2 t (bK ..)).1,(h2 t (bK ..)).2,rfl⟩
 |t::u::m,h1,h2=>
  have:=(eV.1 h1).1 u (bK ..);rw[(h2 t (bK ..)).2,(h2 u (by simp)).2]at this;exact absurd this (kI k)
theorem vN {d:Dc} (h:iQ d) (i:Nat) (k:List UInt8):Ei i (cF d.2) k=[]\/∃t∈dQ (cF d.2),cN t=k/\Ei i (cF d.2) k=[((i:Int),posOf (cF d.2) t)]:=by
 rcases filter_one (vL h.K7) k with h1|⟨t,ht,hk,h1⟩
 ·exact .inl (by unfold Ei;rw[h1];rfl)
 ·exact .inr ⟨t,ht,hk,by unfold Ei;rw[h1];rfl⟩
theorem QB {tl:List (Fd×Nat)} {i:Nat} {t:Fd} (h:t∈dQ tl):Ei i tl (cN t)≠[]:=λe=>by
 have:t∈(dQ tl).filter λu=>decide (cN u=cN t):=fy.2 ⟨h,by simp⟩
 rw[List.map_eq_nil_iff.1 e]at this;cases this
theorem zk (k:List UInt8):∀(L:List En) (i:Nat) (last:Int),(∀e∈L,iQ e.1)->last<i->i+L.length<=2147483648->eN last (BJ k i L)=true
 |[],_,_,_,_,_=>rfl
 |e::L,i,last,hF,h1,h2=>by
  have hf:=hF e (bK ..);have hr:=λlast h=>zk k L (i+1) last (λx hx=>hF x (cz _ hx)) h (by simp at h2;omega)
  simp only[BJ];rcases vN hf i k with h3|⟨t,ht,hk,h3⟩
  ·rw[show Ei i (uL e) k=[]from h3];exact hr last q0
  ·rw[show Ei i (uL e) k=_ from h3]
   have fw:(posOf (cF e.1.2) t).isEmpty=false:=by
    have:=Qz ((jg hf.K7).1 ht)
    cases h:posOf (cF e.1.2) t with
    |nil=>exact absurd h this
    |cons a b=>rfl
   simp only[ov,kd,eN,fw,hf.gg t,hr i (by omega),kz,Bool.not_false,cp,decide_eq_true_eq];simp at h2;omega
theorem xK (k:List UInt8):∀(L:List En) (i:Nat),(∀e∈L,iQ e.1)->(BJ k i L).length<=L.length/\∀p∈BJ k i L,(i:Int)<=p.1/\p.1<i+L.length/\p.2.length<=500
 |[],_,_=>⟨aX _,λp h=>by cases h⟩
 |e::L,i,hF=>by
  have hf:=hF e (bK ..);obtain⟨h1,h2⟩:=xK k L (i+1) (λx hx=>hF x (cz _ hx));simp only[BJ,cy];rcases vN hf i k with h3|⟨t,ht,hk,h3⟩
  ·rw[show Ei i (uL e) k=[]from h3];exact⟨by simpa using Nat.le_succ_of_le h1,λp hp=>by have:=h2 p (by simpa using hp);exact⟨by omega,by omega,this.2.2⟩⟩
  ·rw[show Ei i (uL e) k=_ from h3];refine ⟨by simp;omega,λp hp=> ?_⟩;rcases cU.1 hp with rfl|hp
   ·exact⟨nP _,by simp only;omega,(hf.pos t).2.2⟩
   ·have:=h2 p (by simpa using hp);exact⟨by omega,by omega,this.2.2⟩
theorem xL:∀(l:List Po) (last:Int) (m:Nat),-1<=last->eN last l=true->(∀p∈l,p.2.length<=m)->m<=1000000->(eH last l).length<=(18+9*m)*l.length/\jD l<=m*l.length
 |[],_,_,_,_,_,_=>⟨by simp[eH],by simp[jD]⟩
 |(d,ps)::l,last,m,h0,hm,hs,hmm=>by
  simp only[eN,cp,decide_eq_true_eq]at hm;obtain⟨⟨⟨⟨h1,h2⟩,h3⟩,h4⟩,h5⟩:=hm;obtain⟨h6,h7⟩:=px.1 h4;have qm:=hs _ (bK ..);simp only at qm;obtain⟨i1,i2⟩:=xL l d m q0 h5 (λp hp=>hs p (cz _ hp)) hmm;have a1:=zP ps (-1) q0 (λx hx=>by have:=h7 x hx;omega) h6;have a3:=ly (n:=(d-last-1).toNat) q0;have a4:=ly (n:=ps.length) q0;have e1:9*ps.length<=9*m:=by omega
  constructor
  ·simp only[eH,ff,bU,cy,Nat.mul_add,Nat.mul_one];omega
  ·simp only[jD,dC,List.sum_cons,cy]at i2 ⊢;rw[Int.natCast_add,Int.mul_add];omega
theorem QC {k:List UInt8}:∀{L:List En} (i:Nat),k∈jN L->BJ k i L≠[]
 |[],_,h=>by cases h
 |e::L,i,h=>by
  simp only[BJ];intro hn;obtain⟨h1,h2⟩:=List.append_eq_nil_iff.1 hn;have h:k∈(dQ (uL e)).map cN++jN L:=h;rcases dN.1 h with h|h
  ·obtain⟨t,ht,rfl⟩:=cu.1 h;exact QB ht h1
  ·exact QC (i+1) h h2
theorem K8 {k:List UInt8}:∀{L:List En} (i:Nat),k∉jN L->BJ k i L=[]
 |[],_,_=>rfl
 |e::L,i,h=>by
  have h:k∉(dQ (uL e)).map cN++jN L:=h;rw[dN,not_or]at h;simp only[BJ];rw[K8 (i+1) h.2,fS];unfold Ei;rw[List.filter_eq_nil_iff.2 λt ht=>by simp;intro e';exact h.1 (cu.2 ⟨t,ht,e'⟩)];rfl
end Go.K
namespace Go.K
def RT.ptr {α:Type} (A:RT α) (hn:0<A.n:=by decide):RT α where
 n:=1
 agg:=false
 R:=λM w x vs=>∃b o us,vs=[.pointer (some ⟨b,o,none⟩)]/\¬M b/\A.R M w x us/\w.rangeAt b o us
 len:=by rintro _ _ x vs ⟨b,o,us,rfl,_⟩;rfl
 one:=by rintro _ _ x vs ⟨b,o,us,rfl,_⟩ v hv;simp at hv;subst hv;rfl
 le:=by
  rintro M w M' w' x vs hl ⟨b,o,us,h1,h2,h3,h4⟩;have hp:0<us.length:=by rw[A.len h3];exact hn
  have hc:=h4 0 (us[0]'hp) (an hp);exact⟨b,o,us,h1,(hl b (World.block_lt_of_cell? w _ hc) h2).1,A.le hl h3,tD hl h2 h4⟩
theorem K9 {α:Type} {A:RT α} {hn:0<A.n} {M:aE} {w:World} {x:α} {v:Value}:(A.ptr hn).V M w x v↔cG A M w v x:=
 ⟨fun⟨vs,⟨b,o,us,h1,h2,h3,h4⟩,h5⟩=>⟨b,o,us,by subst h1;exact h5,h2,h3,h4⟩,fun⟨b,o,us,h1,h2,h3,h4⟩=>⟨[v],⟨b,o,us,by rw[h1],h2,h3,h4⟩,rfl⟩⟩
abbrev Di:=List (List UInt8)×List Li
abbrev Se:=List Int×List Int×Di
abbrev RT.di:RT Di:=RT.pair (RT.str.sl) (((RT.li).ptr).sl)
abbrev RT.se:RT Se:=RT.pair ((RT.int .i64).sl) (RT.pair ((RT.int .i64).sl) ((RT.di).ptr))
theorem di0:Part RT.di (RT.str.sl) (λp=>p.1) 0:=kO _ _
theorem di1:Part RT.di (((RT.li).ptr).sl) (λp=>p.2) 1:=fH _ _
theorem se0:Part RT.se ((RT.int .i64).sl) (λp=>p.1) 0:=kO _ _
theorem se1:Part RT.se ((RT.int .i64).sl) (λp=>p.2.1) 1:=(fH ((RT.int .i64).sl) (RT.pair ((RT.int .i64).sl) ((RT.di).ptr))).trans (kO _ _)
theorem se2:Part RT.se ((RT.di).ptr) (λp=>p.2.2) 2:=(fH ((RT.int .i64).sl) (RT.pair ((RT.int .i64).sl) ((RT.di).ptr))).trans (fH ((RT.int .i64).sl) ((RT.di).ptr))
abbrev Pa:=List Int×List Int×List (List UInt8)×List (List Po)
abbrev RT.pa:RT Pa:=RT.pair ((RT.int .i64).sl) (RT.pair ((RT.int .i64).sl) (RT.pair (RT.str.sl) (((RT.po).sl).sl)))
theorem pa0:Part RT.pa ((RT.int .i64).sl) (λp=>p.1) 0:=kO _ _
theorem pa1:Part RT.pa ((RT.int .i64).sl) (λp=>p.2.1) 1:=(fH ((RT.int .i64).sl) (RT.pair ((RT.int .i64).sl) (RT.pair (RT.str.sl) (((RT.po).sl).sl)))).trans (kO _ _)
theorem pa2:Part RT.pa (RT.str.sl) (λp=>p.2.2.1) 2:=((fH ((RT.int .i64).sl) (RT.pair ((RT.int .i64).sl) (RT.pair (RT.str.sl) (((RT.po).sl).sl)))).trans (fH ((RT.int .i64).sl) (RT.pair (RT.str.sl) (((RT.po).sl).sl)))).trans (kO _ _)
theorem pa3:Part RT.pa (((RT.po).sl).sl) (λp=>p.2.2.2) 3:=((fH ((RT.int .i64).sl) (RT.pair ((RT.int .i64).sl) (RT.pair (RT.str.sl) (((RT.po).sl).sl)))).trans (fH ((RT.int .i64).sl) (RT.pair (RT.str.sl) (((RT.po).sl).sl)))).trans (fH _ _)
theorem al0 {M:aE} {w:World} {x:Se} {a b c:Value} (h0:((RT.int .i64).sl).V M w x.1 a) (h1:((RT.int .i64).sl).V M w x.2.1 b) (h2:cG RT.di M w c x.2.2):RT.se.V M w x (.agg [a,b,c].toArray):=
 ⟨[a,b,c],⟨[a],[b,c],rfl,mF h0 rfl rfl,[b],[c],rfl,mF h1 rfl rfl,mF (K9.2 h2) rfl rfl⟩,rfl⟩
theorem al1 {M:aE} {w:World} {x:Pa} {a b c d:Value} (h0:((RT.int .i64).sl).V M w x.1 a) (h1:((RT.int .i64).sl).V M w x.2.1 b) (h2:(RT.str.sl).V M w x.2.2.1 c) (h3:(((RT.po).sl).sl).V M w x.2.2.2 d):RT.pa.V M w x (.agg [a,b,c,d].toArray):=
 ⟨[a,b,c,d],⟨[a],[b,c,d],rfl,mF h0 rfl rfl,[b],[c,d],rfl,mF h1 rfl rfl,[c],[d],rfl,mF h2 rfl rfl,mF h3 rfl rfl⟩,rfl⟩
theorem Jq {α:Type} {A:RT α} (hg:A.agg=true) {M:aE} {w:World} {x:α} {vs:List Value} (h:A.V M w x (.agg vs.toArray)):∀u∈vs,u.oneCell'=true:=by
 obtain⟨us,h1,h2⟩:=h
 have:vs=us:=by
  unfold RT.val at h2;rw[if_pos hg]at h2;injection h2 with h2
  simpa using congrArg Array.toList h2
 subst this;exact A.one h1
theorem fY.free {α:Type} {A:RT α} (hA:∀M w M' w' x vs,A.R M w x vs->A.R M' w' x vs) {M M':aE} {w w':World}:∀{xs:List α} {C:List Value},fY A M w xs C->fY A M' w' xs C
 |[],_,h=>h
 |x::xs,C,h=>by
  obtain⟨vs,r,h1,h2,h3⟩:=h;exact⟨vs,r,h1,hA _ _ _ _ _ _ h2,fY.free hA h3⟩
theorem Own.tell {α:Type} {A:RT α} {hn:0<A.n} (hA:∀M w M' w' x vs,A.R M w x vs->A.R M' w' x vs) {e:TypeId} {M M0:aE} {w:World} {base:Nat} {v:Value} {xs:List α} (h:Own A e M w base v xs) (hb:∀b,v.ownBlock=some b->¬M0 b) (hlen:xs.length<=140737488355328):(A.sl hn).V M0 w xs v:=by
 obtain⟨⟨C,hr,ha⟩,hm⟩:=h;have h':Own A e (λb=>v.ownBlock=some b\/M0 b) w base v xs:=⟨⟨C,hr,fY.free hA ha⟩,λb hb=> .inl hb⟩;exact h'.sl (λb _ hn=>⟨λh=>hn (.inr h),rfl⟩) hb hlen
end Go.K
namespace Go.K
open Go.Maps (Keyed)
section
variable {P:Program} {r:Option Nat} {n:Nat} {L:Sl} {ds:List Deferred} {w:World} {K:Kt} {ops:Array Oper} {rest:List Oper} {d:Nat} {x y z:Operand} {ty:TypeId} {pos:String} {af:Array Edge}
variable {kt:TypeId} {M:aE} {b clock:Nat} {es:List MapEntry}
theorem gx.ZM (h:gx P kt w b es clock) {i s:Nat} {key v0 val:Value} (hi:es[i]? =some ⟨key,v0,s⟩) {w':World} (hw:w'.heap[b]? =some (.map (es.set i ⟨key,val,s⟩).toArray clock)):
  gx P kt w' b (es.set i ⟨key,val,s⟩) clock/\(es.set i ⟨key,val,s⟩).map (·.key)=es.map (·.key)/\∀zv jG v',eU zv (es.set i ⟨key,val,s⟩) jG v'↔(jG=key/\v'=val)\/(jG≠key/\eU zv es jG v'):=by
 have sk:=(al.1 hi).1;have mL:(⟨key,v0,s⟩:MapEntry)∈es:=ax hi;obtain⟨qe,xF⟩:∃qe,qe=es.set i ⟨key,val,s⟩:=⟨_,rfl⟩;rw[<-xF]at hw ⊢
 have jb:∀j e',qe[j]? =some e'→(j=i/\e'=⟨key,val,s⟩)\/(j≠i/\es[j]? =some e'):=λj e' hj=>by
  rw[xF,fi]at hj
  split at hj
  ·rename_i jt
   left;exact⟨jt.symm,by simpa[sk]using hj.symm⟩
  ·rename_i jt
   exact .inr ⟨λe=>jt e.symm,hj⟩
 have qf:qe.map (·.key)=es.map (·.key):=by
  rw[xF,List.map_set];apply kn;intro j;rw[fi]
  split
  ·rename_i jt
   subst jt;have e:=(al.1 hi).2;simp[sk,e]
  ·rfl
 have Qh:qe.map (·.born)=es.map (·.born):=by
  rw[xF,List.map_set];apply kn;intro j;rw[fi]
  split
  ·rename_i jt
   subst jt;have e:=(al.1 hi).2;simp[sk,e]
  ·rfl
 have ir:∀e'∈qe,(e'=⟨key,val,s⟩)\/(e'∈es/\e'.key≠key):=λe' ru=>by
  obtain⟨j,hj⟩:=bG.1 ru;rcases jb j e' hj with⟨_,e⟩|⟨fw,wR⟩
  ·exact .inl e
  ·refine .inr ⟨ax wR,λe=>fw ?_⟩;rcases fh j i with h1|h1|h1
   ·exact absurd e (iL h.keys wR hi h1)
   ·exact h1
   ·exact absurd e.symm (iL h.keys hi wR h1)
 have Qi:(⟨key,val,s⟩:MapEntry)∈qe:=ax (i:=i) (by rw[xF,fi];simp[sk])
 have hold:∀e'∈es,e'.key≠key->e'∈qe:=λe' ru fw=>by
  obtain⟨j,hj⟩:=bG.1 ru;refine ax (i:=j) ?_;rw[xF,fi,if_neg]
  ·exact hj
  ·rintro rfl;rw[hi]at hj;cases hj;exact fw G
 refine⟨⟨hw,?_,λe' ru=>?_,?_,λe' ru=>?_⟩,qf,λzv jG v'=>?_⟩
 ·have:=eu.2 h.born;rw[<-Qh]at this;exact eu.1 this
 ·rcases ir e' ru with e|⟨h1,_⟩
  ·rw[e];exact(h.lt _ mL:s<clock)
  ·exact h.lt _ h1
 ·have:=eu.2 h.keys;rw[<-qf]at this;exact eu.1 this
 ·rcases ir e' ru with e|⟨h1,_⟩
  ·rw[e];exact(h.ok _ mL:∃l,keyOf P kt key=some l)
  ·exact h.ok _ h1
 ·constructor
  ·rintro(⟨e',ru,hk,hv⟩|⟨h1,h2⟩)
   ·rcases ir e' ru with e|⟨h3,h4⟩
    ·subst e;exact .inl ⟨hk.symm,hv⟩
    ·exact .inr ⟨by rw[<-hk];exact h4,.inl ⟨e',h3,hk,hv⟩⟩
   ·have fw:jG≠key:=λe=>h1 _ Qi e.symm
    exact .inr ⟨fw,.inr ⟨λe' ru=>λe=>by
     by_cases h5:e'.key=key
     ·exact fw (e.symm.trans h5)
     ·exact h1 e' (hold e' ru h5) e,h2⟩⟩
  ·rintro(⟨rfl,rfl⟩|⟨fw,⟨e',ru,hk,hv⟩|⟨h1,h2⟩⟩)
   ·exact .inl ⟨_,Qi,G,G⟩
   ·exact .inl ⟨e',hold e' ru (by rw[hk];exact fw),hk,hv⟩
   ·exact .inr ⟨λe' ru=>by
     rcases ir e' ru with e|⟨h3,_⟩
     ·rw[e];exact λe=>fw e.symm
     ·exact h1 e' h3,h2⟩
theorem eU.put {key val:Value} {s:Nat} (hn:∀e∈es,e.key≠key) (zv jG v':Value):eU zv (es++[⟨key,val,s⟩]) jG v'↔(jG=key/\v'=val)\/(jG≠key/\eU zv es jG v'):=by
 constructor
 ·rintro(⟨e,he,hk,hv⟩|⟨h1,h2⟩)
  ·rcases dN.1 he with he|he
   ·exact .inr ⟨by rw[<-hk];exact hn e he,.inl ⟨e,he,hk,hv⟩⟩
   ·obtain rfl:=cO.1 he;exact .inl ⟨hk.symm,hv⟩
  ·exact .inr ⟨λe=>h1 ⟨key,val,s⟩ (by simp) e.symm,.inr ⟨λe he=>h1 e (nS _ he),h2⟩⟩
 ·rintro(⟨rfl,rfl⟩|⟨fw,⟨e,he,hk,hv⟩|⟨h1,h2⟩⟩)
  ·exact .inl ⟨⟨_,_,s⟩,by simp,rfl,rfl⟩
  ·exact .inl ⟨e,nS _ he,hk,hv⟩
  ·refine .inr ⟨λe he=>?_,h2⟩;rcases dN.1 he with he|he
   ·exact h1 e he
   ·obtain rfl:=cO.1 he;exact λe=>fw e.symm
theorem Rg.U9 {t e:TypeId} {key val:Value} {kl:Lit} (ht:P.underlying t=some (.map kt e)) (Kk:Keyed P kt) (hx:ev L x=some (.map (some b))) (hy:ev L y=some key) (hz:ev L z=some val) (j6:keyOf P kt key=some kl) (h:gx P kt w b es clock) (hm:M b)
  (k:∀w' qe Je,gx P kt w' b qe Je->((qe.map (·.key)=es.map (·.key)/\∃e∈es,e.key=key)\/(qe.map (·.key)=es.map (·.key)++[key]/\∀e∈es,e.key≠key))->(∀zv jG v',eU zv qe jG v'↔(jG=key/\v'=val)\/(jG≠key/\eU zv es jG v'))->Step M w M w' (λk=>k=b)->Rg P r n ops rest L ds w' K):
  Rg P r n ops ({dst:=none,op:= .mapUpdate t x y z,type:=ty,pos,after:=af,guard:=none}::rest) L ds w K:=by
 have eZ:=ae h.at_;rcases Kk.find w j6 es h.ok with⟨h1,h2⟩|⟨j,e0,h1,h2,h3⟩
 ·have hw:({w with heap:=w.heap.setIfInBounds b (.map (es.toArray.push ⟨key,val,clock⟩) (clock+1))}:World).heap[b]? =some (.map (es++([⟨key,val,clock⟩]:List MapEntry)).toArray (clock+1)):=by
   simp[dD,eZ]
  refine .Wn a06 G G _ (λρ hρ=>?_) (k _ _ _ (h.push j6 h2 hw) (Or.inr ⟨by simp,h2⟩) (eU.put h2) (iU M hm));simp only[execOp,hρ x _ hx,hρ y _ hy,hρ z _ hz,Instr.mapUpdate,cB,run_underlying ht,cW,dM h.at_,Kk.check w false j6,h1,run_setObj_map h.at_];simp
 ·have he:e0∈es:=ax h2;obtain⟨k0,v0,s0⟩:=e0;simp only at h3;subst h3;have hj:es.toArray[j]? =some ⟨k0,v0,s0⟩:=by simpa using h2
  have Qg:es.toArray.modify j (λe=>{e with key:=k0,val:=val})=(es.set j ⟨k0,val,s0⟩).toArray:=by
   apply Array.ext_getElem?;intro i;rw[wN];simp only[fK,fi]
   split
   ·rename_i W4
    subst W4;have:=(al.1 h2).1;rw[h2];simp[this]
   ·rfl
  have hw:({w with heap:=w.heap.setIfInBounds b (.map (es.set j ⟨k0,val,s0⟩).toArray clock)}:World).heap[b]? =some (.map (es.set j ⟨k0,val,s0⟩).toArray clock):=by simp[dD,eZ]
  obtain⟨hW,qJ,nu⟩:=h.ZM h2 hw
  have jV:(Instr.keyThatStays ((Option.map (fun(e:MapEntry)=>e.key) es.toArray[j]?).getD k0) k0).run P w= .ok k0 w:=by
   rw[hj];simp only[dq,ot];exact Kk.stays w j6
  refine .Wn a06 G G _ (λρ hρ=>?_) (k _ _ clock hW (Or.inl ⟨qJ,_,he,G⟩) nu (iU M hm));simp only[execOp,hρ x _ hx,hρ y _ hy,hρ z _ hz,Instr.mapUpdate,cB,run_underlying ht,cW,dM h.at_,Kk.check w false j6,h1,jV,Qg,run_setObj_map h.at_];simp
theorem GB {t e:TypeId} {zv key:Value} {size bytes:Nat} {kl:Lit} (ht:P.underlying t=some (.map kt e)) (Kk:Keyed P kt) (hi:TI P e zv size bytes) (j6:keyOf P kt key=some kl) (h:gx P kt w b es clock):
  ∃v,eU zv es key v/\∀(w:World) (ρ:Operand->Value) (dst:Option Tmp) (gd:Option (Nat×Bool)),ρ x= .map (some b)->ρ y=key->gx P kt w b es clock->(execOp ρ {dst,op:= .lookup t x y false,type:=ty,pos,after:=af,guard:=gd}).run P w= .ok (.value v) w:=by
 rcases Kk.find w j6 es h.ok with⟨h1,h2⟩|⟨j,e0,h1,h2,h3⟩
 ·refine ⟨zv,Or.inr ⟨h2,G⟩,λw ρ dst gd hx hy h=> ?_⟩;obtain⟨inf,i1,i2,_,_⟩:=hi.get;have hz:(zeroValue e).run P w= .ok zv w:=by simp[zeroValue,typeInfo,i1,i2]
  rcases Kk.find w j6 es h.ok with⟨h1,_⟩|⟨j,e0,_,g2,g3⟩
  ·simp only[execOp,hx,hy,Instr.lookup,cB,run_underlying ht,cW,dM h.at_,nc,Kk.check w _ j6,h1,hz];simp
  ·exact absurd g3 (h2 e0 (ax g2))
 ·refine⟨e0.val,Or.inl ⟨e0,ax h2,h3,G⟩,λw ρ dst gd hx hy h=>?_⟩;rcases Kk.find w j6 es h.ok with⟨_,g2⟩|⟨j',e1,g1,g2,g3⟩
  ·exact absurd h3 (g2 e0 (ax h2))
  ·have:e1=e0:=h.KY (ax g2) (ax h2) (g3.trans h3.symm);subst this;simp only[execOp,hx,hy,Instr.lookup,cB,run_underlying ht,cW,dM h.at_,nc,Kk.check w _ j6,g1];simp
theorem cf.vG {N:aE} {t e:TypeId} {zv key:Value} {size bytes:Nat} {kl:Lit} {dst:Option Tmp} {gd:Option (Nat×Bool)} (ht:P.underlying t=some (.map kt e)) (Kk:Keyed P kt) (hi:TI P e zv size bytes) (hx:ev L x=some (.map (some b))) (hy:ev L y=some key) (j6:keyOf P kt key=some kl) (h:gx P kt w b es clock) (hn: ¬N b):
  cf P N w L {dst,op:= .lookup t x y false,type:=ty,pos,after:=af,guard:=gd}:=λρ hρ v w' hk hr=>by
 obtain⟨v0,_,gO⟩:=GB (x:=x) (y:=y) (ty:=ty) (pos:=pos) (af:=af) ht Kk hi j6 h;have h':gx P kt w' b es clock:=⟨(hk.2 b (ae h.at_) hn).trans h.at_,h.born,h.lt,h.keys,h.ok⟩;rw[gO w ρ dst gd (hρ x _ hx) (hρ y _ hy) h]at hr;rw[gO w' ρ dst gd (hρ x _ hx) (hρ y _ hy) h'];injection hr with h1 h2
 rw[h1]
end
end Go.K
namespace Go.K
open Go.Proofs
set_option maxRecDepth 10000
theorem Va {M:aE} {w0:World} {v:Value} {b:List Fd} (hM:Lt M w0) (hv:(RT.fd.sl).V M w0 b v) (Cb:b.length<=1099511627776):
  Spec Tryz.prog 189 #[v] w0 (λv' w'=>(RT.fd.sl).V M w' b v'∧Step M w0 M w' ar):=by
 obtain⟨a,cap,o7,hc,hl,hs⟩:=iX.1 hv;refine aS (args:=[_]) (fn:=Tryz.f189) Tryz.func189 G (n:=8) Tryz.ntmps189 (T.aO (Rg.aZ G G (aI (T.aO (ab G G (aY (v':= .slice a b.length cap) o7 (Rg.lY bu G G G (ad ?_))))))));refine bI G (λc1=>?_) (λc1=>?_)
 ·refine T.aO (Rg.aZ G G (aM ?_))
  have hb:b=[]:=by
   rcases hs with h|⟨_,_,h,_⟩
   ·exact h
   ·rw[c1]at h;cases h
  exact aP rfl rfl ⟨by rw[hb];exact gC,aV⟩
 ·refine aR (T.aO ?_);refine Rg.sl0 bu ko M G (λa0 w1 s1=>?_);refine ab G G ?_;refine Rg.oH (A:=RT.fd) (hn:=by decide) (M:=M) bu ko G G G G hv s1.le (s1.lt hM) q0 (λu2 w2 j3 s2=>?_);refine Rg.aZ G G (aM ?_);exact aP G G ⟨j3,s1.av s2⟩
theorem AO {M:aE} {w0:World} {v:Value} {b:List Int} (hM:Lt M w0) (hv:((RT.int .i64).sl).V M w0 b v) (Cb:b.length<=1099511627776):
  Spec Tryz.prog 100 #[v] w0 (λv' w'=>((RT.int .i64).sl).V M w' b v'∧Step M w0 M w' ar):=by
 obtain⟨a,cap,o7,hc,hl,hs⟩:=iX.1 hv;refine aS (args:=[_]) (fn:=Tryz.f100) BO G (n:=8) Tryz.ntmps100 (T.aO (Rg.aZ G G (aI (T.aO (ab G G (aY (v':= .slice a b.length cap) o7 (Rg.lY ao G G G (ad ?_))))))));refine bI G (λc1=>?_) (λc1=>?_)
 ·refine T.aO (Rg.aZ G G (aM ?_))
  have hb:b=[]:=by
   rcases hs with h|⟨_,_,h,_⟩
   ·exact h
   ·rw[c1]at h;cases h
  exact aP rfl rfl ⟨by rw[hb];exact gC,aV⟩
 ·refine aR (T.aO ?_);refine Rg.sl0 ao I3 M G (λa0 w1 s1=>?_);refine ab G G ?_;refine Rg.oH (A:=(RT.int .i64)) (hn:=by decide) (M:=M) ao I3 G G G G hv s1.le (s1.lt hM) q0 (λu2 w2 j3 s2=>?_);refine Rg.aZ G G (aM ?_);exact aP G G ⟨j3,s1.av s2⟩
theorem QD {M:aE} {w0:World} {v:Value} {b:List (List UInt8)} (hM:Lt M w0) (hv:(RT.str.sl).V M w0 b v) (Cb:b.length<=1099511627776):
  Spec Tryz.prog 198 #[v] w0 (λv' w'=>(RT.str.sl).V M w' b v'∧Step M w0 M w' ar):=by
 obtain⟨a,cap,o7,hc,hl,hs⟩:=iX.1 hv;refine aS (args:=[_]) (fn:=Tryz.f198) Tryz.func198 G (n:=8) Tryz.ntmps198 (T.aO (Rg.aZ G G (aI (T.aO (ab G G (aY (v':= .slice a b.length cap) o7 (Rg.lY aQ G G G (ad ?_))))))));refine bI G (λc1=>?_) (λc1=>?_)
 ·refine T.aO (Rg.aZ G G (aM ?_))
  have hb:b=[]:=by
   rcases hs with h|⟨_,_,h,_⟩
   ·exact h
   ·rw[c1]at h;cases h
  exact aP rfl rfl ⟨by rw[hb];exact gC,aV⟩
 ·refine aR (T.aO ?_);refine Rg.sl0 aQ I9 M G (λa0 w1 s1=>?_);refine ab G G ?_;refine Rg.oH (A:=RT.str) (hn:=by decide) (M:=M) aQ I9 G G G G hv s1.le (s1.lt hM) q0 (λu2 w2 j3 s2=>?_);refine Rg.aZ G G (aM ?_);exact aP G G ⟨j3,s1.av s2⟩
theorem Vb {M:aE} {w0:World} {v:Value} {b:List Li} (hM:Lt M w0) (hv:(((RT.li).ptr).sl).V M w0 b v) (Cb:b.length<=1099511627776):
  Spec Tryz.prog 199 #[v] w0 (λv' w'=>(((RT.li).ptr).sl).V M w' b v'∧Step M w0 M w' ar):=by
 obtain⟨a,cap,o7,hc,hl,hs⟩:=iX.1 hv;refine aS (args:=[_]) (fn:=Tryz.f199) Tryz.func199 G (n:=8) Tryz.ntmps199 (T.aO (Rg.aZ G G (aI (T.aO (ab G G (aY (v':= .slice a b.length cap) o7 (Rg.lY ey G G G (ad ?_))))))));refine bI G (λc1=>?_) (λc1=>?_)
 ·refine T.aO (Rg.aZ G G (aM ?_))
  have hb:b=[]:=by
   rcases hs with h|⟨_,_,h,_⟩
   ·exact h
   ·rw[c1]at h;cases h
  exact aP rfl rfl ⟨by rw[hb];exact gC,aV⟩
 ·refine aR (T.aO ?_);refine Rg.sl0 ey tY M G (λa0 w1 s1=>?_);refine ab G G ?_;refine Rg.oH (A:=((RT.li).ptr)) (hn:=by decide) (M:=M) ey tY G G G G hv s1.le (s1.lt hM) q0 (λu2 w2 j3 s2=>?_);refine Rg.aZ G G (aM ?_);exact aP G G ⟨j3,s1.av s2⟩
theorem GC {M:aE} {d:Dc} {v0:Value} (w0:World) (hM:Lt M w0) (hv:RT.dc.V M w0 d v0) (hl:d.2.length<=1099511627776):
  Spec Tryz.prog 148 #[v0] w0 (λv w=>RT.dc.V M w d v/\Step M w0 M w ar):=by
 have iz:=hM;refine aS (args:=[_]) (fn:=Tryz.f148) Tryz.func148 G (n:=9) Tryz.ntmps148 ?_;have S:Step M w0 M w0 ar:=aV;refine T.aO ?_;refine Rg.iI (A:=RT.dc) G G hM hv G (λu0 w1 dB s0 _=>?_);replace hM:=s0.lt hM;have:=S.size;replace S:=S.av s0;refine ek M nr G (λka xE MS MT fc ju=>?_);obtain⟨gq,iK⟩:∃M',M'=ins M ka:=⟨_,rfl⟩;rw[<-iK]at ju;have eo:gq ka:=by rw[iK];exact .inl G
 change xE.heap[ka]? =some (.cells #[.int .i64 0,.slice none 0 0] _ _)at fc;replace dB:=dB.le XT ju.le;replace hM:=ju.lt hM;have:=S.size;replace S:=S.av ju;refine ad (aI ?_);apply T.qa 4 [0,1] 1 ar mixed rfl rfl rfl rfl;intro MI PD;have mM:=PD gq;have:=ae fc;replace eo:=(mM.mem _ this).2 eo;replace fc:=mM.ay fc;replace dB:=dB.le XT mM.le;replace hM:=mM.lt hM;have:=S.size;replace S:=S.av mM;refine au (M:=gq) (A:=RT.dc) (B:=RT.int .i64) bh G G I3 XT (dc0) G G XT a00 (by repeat (first|exact bN _ _|refine bp (bO a00) ?_)) (λB5 lQ=>?_);refine Rg.cI ?_;refine bV (M:=gq) aj G G a00 (by repeat (first|exact bN _ _|refine bp (bO a00) ?_)) (λWY=>?_);refine Rg.cI ?_;refine au (M:=gq) (A:=RT.dc) (B:=(RT.fd).sl) bh G G uJ XT (H8) G G XT a00 (by repeat (first|exact bN _ _|refine bp (bO a00) ?_)) (λQE vP=>?_);refine Rg.cI ?_;refine bM (M:=gq) bu G G G G G a00 (by repeat (first|exact bN _ _|refine bp (bO a00) ?_)) (λZN La=>?_);refine Rg.cI (fB ?_);obtain⟨bb,oo,cs,ee,fr,rfl,oF,_⟩:=lQ.float;refine ⟨ik ⟨fC bh G I3 XT,⟨eO G oF (λh=>h),trivial⟩⟩,?_⟩;have kp:=iR ar MI;refine aJ G G akj (Va hM La hl) (λv4 w4 hc=>?_);obtain⟨qb,s4⟩:=hc;have:=ae fc;replace eo:=(s4.mem _ this).2 eo;replace fc:=s4.ay fc;replace dB:=dB.le XT s4.le;replace hM:=s4.lt hM;have:=S.size;replace S:=S.av s4;refine(fun(kp:fa _ _ _)=>ad ⟨G,G,λ_=>kp,?_⟩) a03
 refine dp (places:=[(0,1),(1,1)]) bh nr B72 rfl ⟨_,_,rfl,rfl,_,_,rfl,rfl,rfl⟩ (out:=[_,_]) ⟨0,[_],rfl,rfl,by simp[Value.cells],1,[_],rfl,iF qb,by simp[Value.cells],rfl⟩ (ad ⟨rfl,rfl,λh=>absurd rfl h,?_⟩);have hd:RT.dc.V gq w4 d (.agg [.int .i64 d.1,v4].toArray):=fR (iG WY) qb rfl rfl rfl rfl;refine dX (M:=gq) (vs:=[.int .i64 d.1,v4]) nr G G (Jq G hd) G G fc eo (λw6 g6 s6=>?_);have:=ae fc;replace eo:=(s6.mem _ this).2 eo;replace dB:=dB.le XT s6.le;replace qb:=qb.le s6.le;replace hd:=hd.le s6.le;replace hM:=s6.lt hM;have:=S.size;replace S:=S.trans s6 (λk hk h=>by have h:_=_:=h;subst h;first|(exfalso;omega)|(show _<=_;omega)|exact⟨by first|omega|assumption,(S.mem _ hk).1 ((s6.mem _ (ae fc)).1 eo)⟩|exact .inl rfl|exact .inr rfl|exact .inr (.inl rfl)|exact .inr (.inr rfl)|exact .inr (.inr (.inl rfl))|exact rfl);have nI:=g6;clear fc;have fc:=nI;clear nI;refine ad ⟨G,G,λh=>absurd G h,lH (aM ?_)⟩;exact tT (vs:=[.int .i64 d.1,v4]) G G bh G nr G fc ⟨hd.le (ni iz S),S.back⟩
theorem QF {M:aE} {e:En} {v0:Value} (w0:World) (hM:Lt M w0) (hv:RT.en.V M w0 e v0) (hl:e.1.2.length<=1099511627776):
  Spec Tryz.prog 96 #[v0] w0 (λv w=>RT.en.V M w e v/\Step M w0 M w ar):=by
 have iz:=hM;refine aS (args:=[_]) (fn:=Tryz.f96) Tryz.func96 G (n:=9) Tryz.ntmps96 ?_;have S:Step M w0 M w0 ar:=aV;refine T.aO ?_;refine Rg.iI (A:=RT.en) G G hM hv G (λu0 w1 dB s0 _=>?_);replace hM:=s0.lt hM;have:=S.size;replace S:=S.av s0;refine ek M CM G (λka xE MS MT fc ju=>?_);obtain⟨gq,iK⟩:∃M',M'=ins M ka:=⟨_,rfl⟩;rw[<-iK]at ju;have eo:gq ka:=by rw[iK];exact .inl G
 change xE.heap[ka]? =some (.cells #[.int .i64 0,.slice none 0 0,.int .i64 0] _ _)at fc;replace dB:=dB.le XT ju.le;replace hM:=ju.lt hM;have:=S.size;replace S:=S.av ju;refine ad (aI ?_);apply T.FI [0,1,3,4,2,5,6] 4 [2,3] 1 ar mixed
 ·simp+decide only[Aa,sw,dC,jw,jq,jr,gL,dq,gE,lT,cond_true,cond_false,Nat.reduceBEq,Nat.reduceAdd,beq_self_eq_true];rfl
 ·rfl
 ·rfl
 ·rfl
 ·rfl
 ·rfl
 ·rfl
 intro MI PD;have mM:=PD gq;have:=ae fc;replace eo:=(mM.mem _ this).2 eo;replace fc:=mM.ay fc;replace dB:=dB.le XT mM.le;replace hM:=mM.lt hM;have:=S.size;replace S:=S.av mM;refine au (A:=RT.en) (B:=RT.dc) de G G nr XT WO G G XT dB b4 (λB5 lQ=>?_);refine Rg.cI ?_;refine bZ (A:=RT.dc) bh G nr XT G G G lQ b4 (λAA mP=>?_);refine Rg.cI ?_;refine au (A:=RT.en) (B:=RT.int .i64) de G G I3 XT Zl G G XT dB b4 (λQE vP=>?_);refine Rg.cI ?_;refine bV (M:=gq) aj G G a00 (by repeat (first|exact bN _ _|refine bp (bO a00) ?_)) (λQG=>?_);refine aY (v':= .int .i64 (e.2)) G ?_;replace QG: -9223372036854775808<=(e.2:Int)/\e.2<=9223372036854775807:=QG;refine Rg.cI (fB ?_);obtain⟨bb,oo,cs,ee,fr,rfl,oF,_⟩:=vP.float;refine ⟨ik ⟨fC de G I3 XT,⟨eO G oF (λh=>h),trivial⟩⟩,?_⟩;have kp:=iR ar MI;refine aJ G G aj9 (GC _ hM mP hl) (λv4 w4 hc=>?_);obtain⟨qb,s4⟩:=hc;obtain⟨uf,rfl⟩:=PN qb;have:=ae fc;replace eo:=(s4.mem _ this).2 eo;replace fc:=s4.ay fc;replace dB:=dB.le XT s4.le;replace hM:=s4.lt hM;have:=S.size;replace S:=S.av s4;refine(fun(kp:fa _ _ _)=>ad ⟨G,G,λ_=>kp,?_⟩) a03;refine dp (places:=[(0,2),(2,1)]) de CM B74 rfl ⟨_,_,rfl,rfl,_,_,rfl,rfl,rfl⟩ (out:=[_,_,_]) ⟨0,[_,_],rfl,rfl,by simp[Value.cells],2,[_],rfl,rfl,by simp[Value.cells],rfl⟩ (ad ⟨rfl,rfl,λh=>absurd rfl h,?_⟩);have hd:RT.en.V gq w4 e (.agg [.int .i64 e.1.1,uf,.int .i64 e.2].toArray):=WQ (p:=e.1) qb QG
 refine dX (M:=gq) (vs:=[.int .i64 e.1.1,uf,.int .i64 e.2]) CM G G (Jq G hd) G G fc eo (λw6 g6 s6=>?_);have:=ae fc;replace eo:=(s6.mem _ this).2 eo;replace dB:=dB.le XT s6.le;replace qb:=qb.le s6.le;replace hd:=hd.le s6.le;replace hM:=s6.lt hM;have:=S.size;replace S:=S.trans s6 (λk hk h=>by have h:_=_:=h;subst h;first|(exfalso;omega)|(show _<=_;omega)|exact⟨by first|omega|assumption,(S.mem _ hk).1 ((s6.mem _ (ae fc)).1 eo)⟩|exact .inl rfl|exact .inr rfl|exact .inr (.inl rfl)|exact .inr (.inr rfl)|exact .inr (.inr (.inl rfl))|exact rfl);have nI:=g6;clear fc;have fc:=nI;clear nI;refine ad ⟨G,G,λh=>absurd G h,lH (aM ?_)⟩;exact tT (vs:=[.int .i64 e.1.1,uf,.int .i64 e.2]) G G de G CM G fc ⟨hd.le (ni iz S),S.back⟩
namespace TKBldB
theorem aeS:TI Tryz.prog 238 (.map none) 1 8:=by unfold TI;kernel_rfl
theorem al2:Enters Tryz.prog 143:=enters Tryz.func143 rfl XT
theorem al3:Enters Tryz.prog 144:=enters Tryz.func144 rfl XT
theorem al4:Enters Tryz.prog 145:=enters Tryz.func145 rfl XT
end TKBldB
open TKBldB
set_option maxRecDepth 10000
theorem IJ.bD {bt mb B:Nat} {ts:List (Fd×Nat)} {M M':aE} {w w':World} (h:IJ bt mb B ts M w) (s:Step M w M' w' ar):IJ bt mb B ts M' w':=by
 obtain⟨gb,eI,fL,hB,K4,es,clock,hW,hI⟩:=h;exact⟨s.ay gb,(s.mem _ (ae gb)).2 eI,(s.mem _ (ae hW.at_)).2 fL,hB,K4,es,clock,hW.bD s,hI.bD s⟩
theorem QH {bt mb B:Nat}:ZB Tryz.prog 143 [.pointer (some ⟨bt,0,none⟩)] B (IJ bt mb B):=
 ⟨al2,λts M w M' w' h s=>h.bD s,λts M w t i hJ hM h1 h2 hi h4=>MZ w hM h1 h2 hi h4 hJ⟩
theorem QI (M:aE) (w:World) (B:Nat):MY M w B [] [] where
 o t v hv:=by
  rcases hv with⟨e,he,_⟩|⟨_,rfl⟩
  ·cases he
  ·exact eE _ _ _ _ _
 a t t' v v' _ hv _:=by
  rcases hv with⟨e,he,_⟩|⟨_,rfl⟩
  ·cases he
  ·exact(kR.nil v').symm
 k:=rfl
theorem GD:∀(ts:List (Fd×Nat)) (l:List Fd),(ts.foldl (λl p=>if p.1∈l then l else l++[p.1]) l).length<=l.length+ts.length
 |[],l=>by simp
 |p::ts,l=>by
  rw[List.foldl_cons,cy];refine ep (GD ts _) ?_
  split
  ·omega
  ·rw[bU];simp;omega
theorem Vc (M:aE) (w:World) (M':aE) (w':World) (x:Fd) (vs:List Value) (h:RT.fd.R M w x vs):RT.fd.R M' w' x vs:=h
theorem GF {M:aE} {d:Dc} {v0:Value} (w0:World) (hM:Lt M w0) (hv:RT.dc.V M w0 d v0) (hF:iQ d) (hl:∀f∈d.2,f.1.length<=900000/\f.2.length<=900000):
  Spec Tryz.prog 94 #[v0] w0 (λv w=>∃a b,v= .tuple #[a,b]/\(RT.fd.sl).V M w (dQ (cF d.2)) a/\(((RT.int .i64).sl).sl).V M w ((dQ (cF d.2)).map (posOf (cF d.2))) b/\Step M w0 M w ar):=by
 have iz:=hM;have W8:=hF.many;refine aS (args:=[_]) (fn:=Tryz.f94) Tryz.func94 G (n:=31) Tryz.ntmps94 ?_;have S:Step M w0 M w0 ar:=aV;refine T.aO ?_;refine Rg.iI (A:=RT.dc) G G hM hv G (λu0 w1 dB s0 _=>?_);replace hM:=s0.lt hM;have:=S.size;replace S:=S.av s0;refine aB G G (Rg.aZ G G (T.aO ?_));refine Rg.AI M me G (λmb w1m p1 q1 gW s1=>?_);obtain⟨ZO,QK⟩:∃M',M'=ins M mb:=⟨_,rfl⟩;rw[<-QK]at s1;have Ej:ZO mb:=by rw[QK];exact .inl G
 replace dB:=dB.le XT s1.le;replace hM:=s1.lt hM;have:=S.size;replace S:=S.av s1;refine ek ZO aeS G (λNd ZD avJ avK B6 yU=>?_);obtain⟨QL,QM⟩:∃M',M'=ins ZO Nd:=⟨_,rfl⟩;rw[<-QM]at yU;have AP:QL Nd:=by rw[QM];exact .inl G
 change ZD.heap[Nd]? =some (.cells #[.map none] _ _)at B6;replace dB:=dB.le XT yU.le;replace Ej:=(yU.mem _ (ae gW.at_)).2 Ej;replace gW:=gW.bD yU;replace hM:=yU.lt hM;have:=S.size;replace S:=S.av yU;refine ch (M:=QL) aeS G G B6 G (G) AP (λFL gT kP=>?_)
 try simp only[nR,List.set_cons_zero,List.set_cons_succ]at gT
 have:=ae B6;replace AP:=(kP.mem _ this).2 AP;replace dB:=dB.le XT kP.le;replace Ej:=(kP.mem _ (ae gW.at_)).2 Ej;replace gW:=gW.step kP (by show¬(_=_);omega);replace hM:=kP.lt hM;have:=S.size;replace S:=S.trans kP (λk hk h=>by have h:_=_:=h;subst h;first|(exfalso;omega)|(show _<=_;omega)|exact⟨by first|omega|assumption,(S.mem _ hk).1 ((kP.mem _ (ae B6)).1 AP)⟩|exact .inl rfl|exact .inr rfl|exact .inr (.inl rfl)|exact .inr (.inr rfl)|exact .inr (.inr (.inl rfl))|exact rfl);have W9:=gT;clear B6;have B6:=W9;clear W9;refine ad (T.aO ?_);refine bZ (M:=QL) (A:=RT.dc) bh G nr XT G G G a00 (by repeat (first|exact bN _ _|refine bp (bO a00) ?_)) (λavL aeT=>?_);refine gz (xs:=[]) (ys:=[.tmp 4]) G G G ?_;refine aJ G G adx (CZ (cap:=[.pointer (some ⟨Nd,0,none⟩)]) (B:=w0.heap.size) _ hM aeT hl hF.few (QH (mb:=mb)) ⟨B6,AP,Ej,by omega,by omega,[],0,gW,QI _ _ _⟩) (λr2 w2 hc=>?_);obtain⟨M2,Og,⟨gb,_,_,_,_,es,clock,hW,hI⟩,s2⟩:=hc;replace S:=S.mv s2 (aX _);have qv:∀t v,eU kY es (kv t) v->(((RT.int .i64).sl)).V M w2 (posOf (cF d.2) t) v:=λt v h=>(hI.o t v h).close iz S (by have:=xI (cF d.2) t;omega)
 replace S:=S.back;replace hM:=S.lt iz
 have aeU:∀e∈es,∃t∈seen (cF d.2),e.key=kv t:=λe he=>by
  have:e.key∈(seen (cF d.2)).map kv:=by rw[<-hI.k];exact gw he
  obtain⟨t,h1,h2⟩:=cu.1 this;exact⟨t,h1,h2.symm⟩
 have Dz:∀t∈seen (cF d.2),Om t/\t.1.length<=12/\t.2.length<=30:=λt ht=>by
  obtain⟨p,hp,rfl⟩:=cu.1 (vM.1 ht);exact⟨hF.K7 p hp,hF.small p hp⟩
 have tH:(seen (cF d.2)).length<=500:=ep (GD _ _) a13;have zD:es.length<=500:=by have:=congrArg List.length hI.k;simp at this;omega
 refine ad (T.aO (aA me G G G gb G ?_));refine aJ G G al4 (Jm _) (λr3 w3 hc=>?_);obtain⟨bs,rfl,U3,_,s3⟩:=hc;replace s3:=s3.toAny M;replace hW:=hW.bD s3;replace gb:=s3.ay gb;replace qv:=λt v h=>(qv t v h).le s3.le
 replace hM:=s3.lt hM;have:=S.size;replace S:=S.av s3
 refine aJ G G al3 (Gr _ (λe he=>by
  obtain⟨t,h1,h2⟩:=aeU e he;exact⟨t,h2,by have:=(Dz t h1).2;omega,by have:=(Dz t h1).2;omega⟩) (λe he t ht=>by
  obtain⟨t',h1,h2⟩:=aeU e he;obtain rfl:=xG (ht.symm.trans h2);exact⟨(Dz _ h1).1,by have:=(Dz _ h1).2;omega,by have:=(Dz _ h1).2;omega⟩) q0 (λts lU mL=>by
  have:=lU.length_le_of_subset (l₂:=seen (cF d.2)) (λt ht=>(vI hI.k).1 (mL t ht));omega) U3 hW) (λr4 w4 hc=>?_)
 obtain⟨us,lU,mL,X7,hou,s4⟩:=hc;obtain rfl:=Gw hF.K7 lU (λt=>(mL t).trans (vI hI.k)) X7;have hul:(dQ (cF d.2)).length<=500:=ep (lU.length_le_of_subset (l₂:=seen (cF d.2)) (λt ht=>vM.2 ((jg hF.K7).1 ht))) tH;replace s4:=s4.toAny M;have EW:(RT.fd.sl).V M w4 (dQ (cF d.2)) r4:=hou.tell Vc (λb hb h=>by have:=(hou.base b hb).1;have:=hM b h;omega) q0;clear hou;replace hW:=hW.bD s4;replace gb:=s4.ay gb;replace qv:=λt v h=>(qv t v h).le s4.le
 replace hM:=s4.lt hM;have:=S.size;replace S:=S.av s4;refine Rg.aZ G G (T.aO (Rg.aZ G G (aI (T.aO (ab G G (bB j1 G EW G (ab G G ?_)))))));refine ad (aT ?_);refine cR (σ:=Nat×Value) (λq=>[(4,.pointer (some ⟨Nd,0,none⟩)),(5,r4),(6,q.2),(16,r4),(17,.int .i64 ((dQ (cF d.2)).length:Int)),(18,.int .i64 (q.1:Int))]) (λq w=>∃M',Lt M' w/\Step M w0 M' w ar/\Own ((RT.int .i64).sl) 61 M' w w0.heap.size q.2 (((dQ (cF d.2)).take q.1).map (posOf (cF d.2)))/\(RT.fd.sl).V M' w (dQ (cF d.2)) r4/\gx Tryz.prog 24 w mb es clock/\w.heap[Nd]? =some (.cells #[.map (some mb)] 238 (0,0))/\(∀t v,eU kY es (kv t) v->(((RT.int .i64).sl)).V M' w (posOf (cF d.2) t) v)/\q.1<=(dQ (cF d.2)).length) (λq=>(dQ (cF d.2)).length-q.1) (0,.slice none 0 0) a14 ?_ ?_
 ·exact⟨M,hM,S,eE _ _ _ _ _,EW,hW,gb,qv,bm _⟩
 ·clear hM EW hW gb qv S;rintro⟨i,u⟩ w ⟨M1,hM,S,ho,EW,hW,gb,qv,hi⟩;dsimp only at ho hi ⊢;refine T.aO (ck G G G (ad (aI ?_)));refine bI G (λc6=>?_) (λc6=>?_)
  ·refine aR (aI (aT (T.aO ?_)));refine cx j1 nE G G G EW b4 q0 (λaep t hg7 KW=>?_);rw[aq]at hg7;have Ui:=ax hg7;have OT:=Dz t (vM.2 ((jg hF.K7).1 Ui));refine bZ (A:=RT.fd) bR G nE XT G G G KW b4 (λalz WV=>?_);refine jR (A:=RT.fd) (M:=M1) nE G G G G G a00 b4 hM (λaeV al6 tj xM avM=>?_);replace EW:=EW.le xM.le;replace ho:=ho.bD xM;replace hW:=hW.bD xM;replace gb:=xM.ay gb;replace qv:=λt v h=>(qv t v h).le xM.le
   replace hM:=xM.lt hM;have:=S.size;replace S:=S.av xM;refine ad (aN (ab G G (aA me G G G gb G ?_)));refine bZ (A:=RT.fd) bR G nE XT G G G tj b4 (λavN aeW=>?_);obtain rfl:=j9 aeW;obtain⟨kl,Im⟩:=Ql t q0 q0;refine Rg.vG me CY l4 G G G Im hW (λv8 o7=>?_);have E6:=qv _ _ o7;clear o7;refine fm (A:=((RT.int .i64).sl)) (hn:=by decide) (M:=M1) iV l4 XT G G hM (E6) (.inr ⟨G,G⟩) (λavO avP QN GG=>?_);replace EW:=EW.le GG.le;replace tj:=tj.le XT GG.le;replace ho:=ho.bD GG;replace hW:=hW.bD GG;replace gb:=GG.ay gb;replace qv:=λt v h=>(qv t v h).le GG.le
   replace hM:=GG.lt hM;have:=S.size;replace S:=S.av GG;refine dA (M:=M1) (base:=w0.heap.size) iV l4 rfl rfl rfl rfl ho QN b4 a13 a13 (S.size) (λal7 al8 avQ aeX GH=>?_);replace EW:=EW.le GH.le;replace tj:=tj.le XT GH.le;replace QN:=QN.le GH.le;replace hW:=hW.step GH (λh=>ho.kZ hW.at_ h);replace gb:=GH.bL gb (λh=>ho.fk gb XT h);replace qv:=λt v h=>(qv t v h).le GH.le
   replace hM:=GH.lt hM;have:=S.size;replace S:=S.eg GH ho (aX _);replace ho:=aeX;refine Rg.aZ G G (aN (br G G G q0 (ab G G (ad ?_))));refine⟨G,(i+1,al7),a14,?_,?_⟩
   ·exact⟨al8,hM,S,by rw[bQ,hg7,cH,ed];exact ho,EW,hW,gb,qv,by dsimp only;omega⟩
   ·dsimp only;omega
  ·refine cE (T.aO (ab G G (ab G G (aB G G (Rg.aZ G G (aM ?_))))));have e:(dQ (cF d.2)).take i=dQ (cF d.2):=bg q0;rw[e]at ho;exact eS rfl rfl rfl ⟨_,_,rfl,EW.le (ni iz S),ho.close iz S a13,S.back⟩
end Go.K
namespace Go.K
open Go.Proofs
namespace TKBldC
theorem YC:TI Tryz.prog 182 (.agg #[(.slice none 0 0),(.map none),(.int .i64 0),(.int .i64 0)]) 4 48:=by unfold TI;kernel_rfl
theorem YE:placesOf Tryz.prog 182=[(0,1),(1,1),(2,1),(3,1)].map some:=by kernel_rfl
end TKBldC
open TKBldC
set_option maxRecDepth 10000
open Go.Maps (Keyed)
theorem vQ:Keyed Tryz.prog 9:=Go.Maps.string_keyed aG
theorem QO (k:List UInt8) (h:k.length<=140737488355328):∃l,keyOf Tryz.prog 9 (sv k)=some l:=by
 have e1:(⟨k.toArray⟩:ByteArray).size=k.length:=by simp[ByteArray.size]
 exact⟨_,Go.WideMaps.keyOf_string_mk aG (by rw[e1];unfold maxLen;omega)⟩
structure GI (Z:aE) (M:aE) (w:World) (B:Nat) (f:List UInt8->List Po) (K:List UInt8->Prop) (es:List MapEntry):Prop where
 o:∀k v,eU kY es (sv k) v->Own RT.po 188 M w B v (f k)
 a:∀k k' v v',k≠k'→eU kY es (sv k) v->eU kY es (sv k') v'→kR v v'
 k:∀x,(∃e∈es,e.key=sv x)↔K x
 z:∀k v c,eU kY es (sv k) v->v.ownBlock=some c->Z c
theorem GI.step {Z M M' N:aE} {w w':World} {B:Nat} {f:List UInt8->List Po} {K:List UInt8->Prop} {es:List MapEntry} (h:GI Z M w B f K es) (s:Step M w M' w' N) (hn:∀k v b,eU kY es (sv k) v->v.ownBlock=some b->¬N b):GI Z M' w' B f K es:=
 ⟨λk v hv=>(h.o k v hv).step s λb hb=>hn k v b hv hb,h.a,h.k,h.z⟩
theorem GI.bD {Z M M':aE} {w w':World} {B:Nat} {f:List UInt8->List Po} {K:List UInt8->Prop} {es:List MapEntry} (h:GI Z M w B f K es) (s:Step M w M' w' ar):GI Z M' w' B f K es:=h.step s λ_ _ _ _ _ h=>h
theorem GI.congr {Z M:aE} {w:World} {B:Nat} {f f':List UInt8->List Po} {K K':List UInt8->Prop} {es:List MapEntry} (h:GI Z M w B f K es) (hf:∀k,f' k=f k) (hK:∀k,K' k↔K k):GI Z M w B f' K' es:=
 ⟨λk v hv=>by rw[hf];exact h.o k v hv,h.a,λx=>(h.k x).trans (hK x).symm,h.z⟩
theorem GI.Nf {Z Z' M:aE} {w:World} {B:Nat} {f:List UInt8->List Po} {K:List UInt8->Prop} {es:List MapEntry} (h:GI Z M w B f K es) (hz:∀c,Z c->c<w.heap.size->Z' c):GI Z' M w B f K es:=
 ⟨h.o,h.a,h.k,λk v c hv hc=>hz c (h.z k v c hv hc) ((h.o k v hv).base c hc).2⟩
theorem GI.put {Z M M2:aE} {w w1 w2:World} {B mb c:Nat} {mes:Array MapEntry} {f:List UInt8->List Po} {K:List UInt8->Prop} {es ZQ:List MapEntry} {k0:List UInt8} {v0 v1:Value} {ps:List Po} (h:GI Z M w B f K es) (hZ:∀c,w.heap.size<=c->Z c) (wO:eU kY es (sv k0) v0)
  (ho1:Own RT.po 188 (mu M v1) w1 B v1 (f k0++ps)) (s1:Step M w (mu M v1) w1 (lW v0)) (hF:∀b,v1.ownBlock=some b->w.heap.size<=b\/v0.ownBlock=some b) (hmb:w1.heap[mb]? =some (.map mes c)) (s2:Step (mu M v1) w1 M2 w2 (λk=>k=mb))
  (Gt:∀zv jG v',eU zv ZQ jG v'↔(jG=sv k0/\v'=v1)\/(jG≠sv k0/\eU zv es jG v')) (qf:(ZQ.map (·.key)=es.map (·.key)/\∃e∈es,e.key=sv k0)\/(ZQ.map (·.key)=es.map (·.key)++[sv k0]/\∀e∈es,e.key≠sv k0)):
  GI Z M2 w2 B (λk=>if k=k0 then f k0++ps else f k) (λx=>K x\/x=k0) ZQ:=by
 have ti:∀k v,eU kY ZQ (sv k) v->(k=k0/\v=v1)\/(k≠k0/\eU kY es (sv k) v):=λk v hv=>by
  rcases(Gt kY (sv k) v).1 hv with⟨h3,h4⟩|⟨h3,h4⟩
  ·exact .inl ⟨Eg h3,h4⟩
  ·exact .inr ⟨λe=>h3 (by rw[e]),h4⟩
 have U5:∀k v,k≠k0->eU kY es (sv k) v->kR v1 v:=λk v fw hv=>(h.a k k0 v v0 fw hv wO).symm.grown hF (λb hb=>((h.o k v hv).base b hb).2)
 have U6:∀k v,k≠k0->eU kY es (sv k) v->Own RT.po 188 (mu M v1) w1 B v (f k):=λk v fw hv=>(h.o k v hv).step s1 (λb hb hk=>h.a k k0 v v0 fw hv wO b hb hk)
 have hnm:∀{v:Value} {xs:List Po},Own RT.po 188 (mu M v1) w1 B v xs->∀b,v.ownBlock=some b->¬b=mb:=λho b hb e=>ho.kZ hmb (by rw[<-e];exact hb)
 refine⟨λk v hv=>?_,λk k' v v' fw hv sM=>?_,λx=>?_,λk v c hv hc=>?_⟩
 ·rcases ti k v hv with⟨rfl,rfl⟩|⟨h3,h4⟩
  ·rw[if_pos rfl];exact ho1.step s2 (hnm ho1)
  ·rw[if_neg h3];exact(U6 k v h3 h4).step s2 (hnm (U6 k v h3 h4))
 ·rcases ti k v hv with⟨rfl,rfl⟩|⟨h3,h4⟩
  ·rcases ti k' v' sM with⟨rfl,_⟩|⟨h5,h6⟩
   ·exact absurd G fw
   ·exact U5 k' v' h5 h6
  ·rcases ti k' v' sM with⟨rfl,rfl⟩|⟨h5,h6⟩
   ·exact(U5 k v h3 h4).symm
   ·exact h.a k k' v v' fw h4 h6
 ·have mL:(∃e∈ZQ,e.key=sv x)↔sv x∈ZQ.map (·.key):=by simp
  have al9:(∃e∈es,e.key=sv x)↔sv x∈es.map (·.key):=by simp
  rw[mL,<-h.k x,al9];rcases qf with⟨h3,e,he,hk⟩|⟨h3,_⟩
  ·rw[h3];constructor
   ·exact .inl
   ·rintro(h4|rfl)
    ·exact h4
    ·rw[<-hk];exact gw he
  ·rw[h3,dN,cO];constructor
   ·rintro(h4|h4)
    ·exact .inl h4
    ·exact .inr (Eg h4)
   ·rintro(h4|rfl)
    ·exact .inl h4
    ·exact .inr G
 ·rcases ti k v hv with⟨rfl,rfl⟩|⟨h3,h4⟩
  ·rcases hF c hc with h5|h5
   ·exact hZ c h5
   ·exact h.z _ _ c wO h5
  ·exact h.z k v c h4 hc
theorem Vd (Z M:aE) (w:World) (B:Nat):GI Z M w B (pk []) (λx=>x∈jN []) [] where
 o k v hv:=by
  rcases hv with⟨e,he,_⟩|⟨_,rfl⟩
  ·cases he
  ·exact eE _ _ _ _ _
 a k k' v v' _ hv _:=by
  rcases hv with⟨e,he,_⟩|⟨_,rfl⟩
  ·cases he
  ·exact(kR.nil v').symm
 k x:=by simp[jN]
 z k v c hv hc:=by
  rcases hv with⟨e,he,_⟩|⟨_,rfl⟩
  ·cases he
  ·cases hc
structure Buf (Z M:aE) (w:World) (B b mb:Nat) (vl:Value) (L:List En) (words last:Int) (f:List UInt8->List Po) (K:List UInt8->Prop) (es:List MapEntry) (clock:Nat):Prop where
 at_:w.heap[b]? =some (.cells #[vl,.map (some mb),.int .i64 words,.int .i64 last] 182 (0,0))
 m:M b
 mm:M mb
 hb:Z b
 hmb:Z mb
 l:Own RT.en 74 M w B vl L
 map:gx Tryz.prog 9 w mb es clock
 rows:GI Z M w B f K es
 zl:∀c,vl.ownBlock=some c->Z c
def oZ (Z M:aE) (w:World) (B b:Nat) (L:List En) (words last:Int):Prop:=∃mb vl es clock,Buf Z M w B b mb vl L words last (pk L) (λx=>x∈jN L) es clock
theorem oZ.bD {Z M M':aE} {w w':World} {B b:Nat} {L:List En} {words last:Int} (h:oZ Z M w B b L words last) (s:Step M w M' w' ar):oZ Z M' w' B b L words last:=by
 obtain⟨mb,vl,es,clock,h1,h2,h3,h4,h5,h6,h7,h8,h9⟩:=h;exact⟨mb,vl,es,clock,s.ay h1,(s.mem _ (ae h1)).2 h2,(s.mem _ (ae h7.at_)).2 h3,h4,h5,h6.bD s,h7.bD s,h8.bD s,h9⟩
theorem oZ.Nf {Z Z' M:aE} {w:World} {B b:Nat} {L:List En} {words last:Int} (h:oZ Z M w B b L words last) (hz:∀c,Z c->c<w.heap.size->Z' c):oZ Z' M w B b L words last:=by
 obtain⟨mb,vl,es,clock,h1,h2,h3,h4,h5,h6,h7,h8,h9⟩:=h;exact⟨mb,vl,es,clock,h1,h2,h3,hz _ h4 (ae h1),hz _ h5 (ae h7.at_),h6,h7,h8.Nf hz,λc hc=>hz c (h9 c hc) (h6.base c hc).2⟩
theorem oZ.step {Z M M' N:aE} {w w':World} {B b:Nat} {L:List En} {words last:Int} (h:oZ Z M w B b L words last) (s:Step M w M' w' N) (hn:∀k,N k->¬Z k):oZ Z M' w' B b L words last:=by
 obtain⟨mb,vl,es,clock,h1,h2,h3,h4,h5,h6,h7,h8,h9⟩:=h;exact⟨mb,vl,es,clock,s.bL h1 (λhk=>hn _ hk h4),(s.mem _ (ae h1)).2 h2,(s.mem _ (ae h7.at_)).2 h3,h4,h5,h6.step s (λc hc hk=>hn _ hk (h9 c hc)),h7.step s (λhk=>hn _ hk h5),h8.step s (λk v c hv hc hk=>hn _ hk (h8.z k v c hv hc)),h9⟩
theorem oZ.stepT {Z M M' N:aE} {w w':World} {B b:Nat} {L:List En} {words last:Int} (h:oZ Z M w B b L words last) (s:Step M w M' w' N) (hn:∀k,N k->∃cs t,w.heap[k]? =some (.cells cs t (0,0))/\t≠182/\t≠74/\t≠188):oZ Z M' w' B b L words last:=by
 obtain⟨mb,vl,es,clock,h1,h2,h3,h4,h5,h6,h7,h8,hz⟩:=h;refine⟨mb,vl,es,clock,s.bL h1 (λhk=>?_),(s.mem _ (ae h1)).2 h2,(s.mem _ (ae h7.at_)).2 h3,h4,h5,h6.step s (λc hc hk=>?_),h7.step s (λhk=>?_),h8.step s (λk v c hv hc hk=>?_),hz⟩
 ·obtain⟨cs,t,h9,Ng,_⟩:=hn _ hk;rw[h1]at h9;simp at h9;exact Ng h9.2.symm
 ·obtain⟨cs,t,h9,_,Ng,_⟩:=hn _ hk;exact h6.fk h9 Ng hc
 ·obtain⟨cs,t,h9,_⟩:=hn _ hk;rw[h7.at_]at h9;cases h9
 ·obtain⟨cs,t,h9,_,_,Ng⟩:=hn _ hk;exact(h8.o k v hv).fk h9 Ng hc
def QP (M Z:aE):aE:=λk=>Z k/\M k
theorem eU.ex (zv:Value) (es:List MapEntry) (key:Value):∃v,eU zv es key v:=by
 by_cases h:∃e∈es,e.key=key
 ·obtain⟨e,he,hk⟩:=h;exact⟨e.val,.inl ⟨e,he,hk,G⟩⟩
 ·exact⟨zv,.inr ⟨λe he hk=>h ⟨e,he,hk⟩,G⟩⟩
def nV (last:Int) (e:En):Int:=if nt e.1≠0 then nt e.1 else if e.2<=last then 12 else 0
def QQ (L:List En) (tl:List (Fd×Nat)) (i:Nat) (k:List UInt8):List Po:=pk L k++(((dQ tl).take i).filter λt=>decide (cN t=k)).map λt=>((L.length:Int),posOf tl t)
theorem QR (L:List En) (tl:List (Fd×Nat)) (k:List UInt8):QQ L tl 0 k=pk L k:=by simp[QQ]
theorem QS {L:List En} {tl:List (Fd×Nat)} {i:Nat} {t:Fd} (h:(dQ tl)[i]? =some t) (k:List UInt8):QQ L tl (i+1) k=if k=cN t then QQ L tl i (cN t)++[((L.length:Int),posOf tl t)]else QQ L tl i k:=by
 unfold QQ;rw[bQ,h,cH,fp,ed]
 split
 ·rename_i e;subst e;simp
 ·rename_i e
  have: ¬cN t=k:=λh=>e h.symm
  simp[this]
theorem Ve {L:List En} {e:En} {i:Nat} (h:(dQ (uL e)).length<=i) (k:List UInt8):QQ L (uL e) i k=pk (L++[e]) k:=by
 unfold QQ;rw[U8,bg h];rfl
theorem Vf {L:List En} (hF:∀x∈L,iQ x.1) (tl:List (Fd×Nat)) (i:Nat) (k:List UInt8):(QQ L tl i k).length<=L.length+(dQ tl).length:=by
 unfold QQ;have h1:=(xK k L 0 hF).1;have h2:=fI (λt=>decide (cN t=k)) ((dQ tl).take i);have h3:=List.length_take_le i (dQ tl);have h4:(pk L k).length<=L.length:=h1;simp only[bU,bT,bF]at*;omega
theorem C5 {d:Dc} (hF:iQ d):(dQ (cF d.2)).length<=500:=by
 have h1:=(vL hF.K7).nodup.length_le_of_subset (l₂:=(cF d.2).map (·.1)) (λt ht=>(jg hF.K7).1 ht);have:=hF.many;simp at h1;omega
theorem iQ.term {d:Dc} (hF:iQ d) {t:Fd} (h:t∈dQ (cF d.2)):t.1.length<=12/\t.2.length<=30:=by
 obtain⟨p,hp,rfl⟩:=cu.1 ((jg hF.K7).1 h);exact hF.small p hp
theorem QT {Z M:aE} {B:Nat} (w0:World) (hM:Lt M w0) (hB:B<=w0.heap.size) (hZ:∀k,w0.heap.size<=k->Z k):
  Spec Tryz.prog 48 #[] w0 (λv w=>∃M' b,v= .pointer (some ⟨b,0,none⟩)/\Lt M' w/\oZ Z M' w B b [] 0 (-1)/\Step M w0 M' w ar):=by
 refine aS (args:=[]) (fn:=Tryz.f48) Tryz.func48 G (n:=4) Tryz.ntmps48 ?_;have S:Step M w0 M w0 ar:=aV;refine T.aO (Rg.aZ G G (T.aO ?_));refine Rg.AI M fW G (λmb w1m p1 q1 gW s1=>?_);obtain⟨ZO,QK⟩:∃M',M'=ins M mb:=⟨_,rfl⟩;rw[<-QK]at s1;have Ej:ZO mb:=by rw[QK];exact .inl G
 replace hM:=s1.lt hM;have:=S.size;replace S:=S.av s1;refine dp (places:=[(0,1),(1,1),(2,1),(3,1)]) dS YC YE rfl ⟨_,_,rfl,rfl,_,_,rfl,rfl,rfl⟩ (out:=[.slice none 0 0,_,.int .i64 0,_]) ⟨1,[_],rfl,rfl,by simp[Value.cells],3,[_],rfl,rfl,by simp[Value.cells],rfl⟩ ?_;refine iP ZO G G (λIC FL adE adF gT kP=>?_);obtain⟨aeY,QU⟩:∃M',M'=ins ZO IC:=⟨_,rfl⟩;rw[<-QU]at kP;have ZR:aeY IC:=by rw[QU];exact .inl G
 change FL.heap[IC]? =some (.cells #[.slice none 0 0,.map (some mb),.int .i64 0,.int .i64 (-1)] _ _)at gT;replace Ej:=(kP.mem _ (ae gW.at_)).2 Ej;replace gW:=gW.bD kP;replace hM:=kP.lt hM;have:=S.size;replace S:=S.av kP;refine Rg.aZ G G (aM ?_);exact aP G G ⟨_,_,G,hM,⟨mb,_,[],0,gT,ZR,Ej,hZ _ q0,hZ _ q0,eE _ _ _ _ _,gW,Vd _ _ _ _,λc hc=>by cases hc⟩,S⟩
end Go.K

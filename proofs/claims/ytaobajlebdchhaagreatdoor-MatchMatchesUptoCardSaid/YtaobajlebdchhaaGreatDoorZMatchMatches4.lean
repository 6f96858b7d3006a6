/- What the law 'MatchMatches' needs of walks and plain Lean, part 4: nothing is assumed beyond the texts that it imports. -/
import Derived.KernelRfl
import Derived.Test.YtaobajlebdchhaaGreatDoorProg
import Derived.Test.YtaobajlebdchhaaGreatDoorZMatchMatches1
import Derived.Test.YtaobajlebdchhaaGreatDoorZMatchMatches2
import Derived.Test.YtaobajlebdchhaaGreatDoorZMatchMatches3
set_option linter.unusedVariables false
set_option linter.unusedSimpArgs false
namespace Go.K
open Go.Proofs
set_option maxRecDepth 10000
theorem D1 {M:aM} {w0:World} {v:Value} {b:List UInt8} {n:Nat} (hM:Lt M w0) (hv:(RT.u8.sl).V M w0 b v) (hb:b.length<=70368744177664) (hn:n<=9223372036854775807):
  Spec Tryz.prog 194 #[v,.int .i64 n] w0 (λv' w'=>∃M',Step M w0 M' w' aC/\Own RT.u8 5 M' w' w0.heap.size v' (b++put n)):=by
 have h9:=lp hn;refine bh (args:=[_,_]) (fn:=Tryz.f194) Tryz.func194 G (n:=26) Tryz.ntmps194 (T.aQ (Rg.aZ G G (T.aQ (ab G G (ab G G ?_)))))
 first|refine bC bZ rfl Xf rfl ?_|refine jq bZ rfl Xf rfl ?_
 refine ab G G ?_
 first|refine bC bZ rfl Xf rfl ?_|refine jq bZ rfl Xf rfl ?_
 refine Rg.HD bZ I5 G G G G hv ⟨G,G⟩ (λa k8 tV=>?_);refine Rg.aZ G G (aL (aX ?_));refine dd (σ:=Nat×Value×List UInt8) (λs=>[(0,s.2.1),(1,.int .i64 s.1)]) (λs w=>s.2.2++put s.1=b++put n/\∃M1,Lt M1 w/\Step M w0 M1 w aC/\Grow RT.u8 Tg 5 M1 w w0.heap.size s.2.1 s.2.2) (λs=>s.1) (n,_,b) a71 ?_ ?_
 ·exact⟨G,M,hM,aV,.inr ⟨a,G,tV,k8⟩⟩
 ·rintro⟨k,u0,acc⟩ w1 ⟨BB,M1,pH,s1,hg⟩;dsimp only at BB hg ⊢;have hlen:=congrArg List.length BB;have yZ:=TC k;simp only[bM]at hlen;refine aL (T.aQ (ab G G (eB G G G (ad ?_))));refine bE G (λc2=>?_) (λc2=>?_)
  ·refine aS (aX (T.aQ (ab G G (ab G G (xD al db G G (Rg.or G G G (bg (congrArg _ (Uz _)) ?_)))))));refine fz (A:=RT.u8) (hn:=by decide) (M:=M1) bZ I5 Tg G G pH (Xl.2 G) (.inr ⟨G,G⟩) (λu w2 hu s2=>?_);refine Rg.JV (M:=M1) (base:=w0.heap.size) bZ I5 G G G G (hg.le s2) hu bS (by simp) a11 a11 (dz s1.size s2.size) (λv3 M3 w3 SU s3=>?_);refine Rg.aZ G G (aH (ab G G (Rg.shr G G G q0 (bg (congrArg _ (al1 _)) (Rg.aZ G G ?_)))));refine⟨G,(k/128,v3,acc++[UInt8.ofNat (128+k%128)]),a71,?_,?_⟩
   ·exact⟨by rw[<-BB,HL (n:=k) q0];simp,M3,s3.lt (s2.lt pH),(s1.aw s2).mi s3 (bz _),.inl SU⟩
   ·show k/128<k;omega
  ·refine cN (T.aQ (ab G G (ab G G (xD al db G G (bg (congrArg _ (Iy _)) ?_)))));refine fz (A:=RT.u8) (hn:=by decide) (M:=M1) bZ I5 Tg G G pH (Xl.2 G) (.inr ⟨G,G⟩) (λu w2 hu s2=>?_);refine Rg.JV (M:=M1) (base:=w0.heap.size) bZ I5 G G G G (hg.le s2) hu bS (by simp) a11 a11 (dz s1.size s2.size) (λv3 M3 w3 SU s3=>?_);refine Rg.aZ G G (aJ (aK G G ⟨M3,(s1.aw s2).mi s3 (bz _),?_⟩));rw[<-BB,zk (n:=k) q0];exact SU
theorem Qm {M:aM} {w0:World} {v:Value} {b:List UInt8} {n:Nat} (hM:Lt M w0) (hv:(RT.u8.sl).V M w0 b v) (hb:b.length<=70368744177664) (hn:n<=9223372036854775807):
  Spec Tryz.prog 194 #[v,.int .i64 n] w0 (λv' w'=>Step M w0 M w' aC/\(RT.u8.sl).V M w' (b++put n) v'):=
 (D1 hM hv hb hn).mono λ_ _ ⟨_,s,ho⟩=>⟨s.back,yF hM s ho (by have:=lp hn;simp;omega)⟩
theorem Gl {M:aM} {w0:World} {v:Value} {b:List UInt8} {at_:Int} (hv:(RT.u8.sl).V M w0 b v) (NC: -9223372036854775808<=at_/\at_<=9223372036854775807):
  Spec Tryz.prog 303 #[v,.int .i64 at_] w0 (λv' w'=>v'= .tuple #[.int .i64 (get b at_).1,.int .i64 (get b at_).2.1,.int .i64 (get b at_).2.2]/\w0=w'):=by
 have hlen:=cU hv;refine bh (args:=[_,_]) (fn:=Tryz.f303) Tryz.func303 G (n:=54) Tryz.ntmps303 (T.aQ (aN G G (aN G G (Rg.aZ G G (aL (T.aQ (ab G G (cx G G G ?_))))))));refine ab G G ?_;refine aO (g:=12) G (λiO=>?_) (λiO=>?_)
 ·obtain Zh:at_<0\/(b.length:Int)<at_:= .inl iO;refine aj G G G G (aj G G G G (aj G G G G (aj G G G G (aU G G G (ad (kD G (T.aQ (aN G G (aN G G (aN G G ?_))))))))));refine ad (aJ ?_);have iW:get b at_=(0,0,1):=by unfold get;rw[if_pos Zh]
  exact rT rfl rfl rfl rfl ⟨by rw[iW],rfl⟩
 ·refine ah G G (ab G G (ah G G (ab G G (ah G G ?_))))
  first|refine bC bZ rfl Xf rfl ?_|refine jq bZ rfl Xf rfl ?_
  refine ah G G (eR G G G (aB G G G (ad ?_)));refine bE G (λc1=>?_) (λc1=>?_)
  ·obtain Zh:at_<0\/(b.length:Int)<at_:= .inr c1;refine T.aQ (aN G G (aN G G (Rg.aZ G G (aJ ?_))));have iW:get b at_=(0,0,1):=by unfold get;rw[if_pos Zh]
   exact rT rfl rfl rfl rfl ⟨by rw[iW],rfl⟩
  ·refine aS (T.aQ (Rg.aZ G G (aL (T.aQ (ab G G (ab G G (ab G G ?_)))))))
   first|refine bC bZ rfl Xf rfl ?_|refine jq bZ rfl Xf rfl ?_
   refine ab G G (bu G G G q0 (Rg.min2 G G G ?_));refine Rg.EO bZ I5 G G G G hv q0 (λu hu=>?_);rw[show(min (b.length:Int) (at_+9)).toNat=min b.length (at_.toNat+9)from by omega,XL]at hu;have iW:get b at_=match oe ((b.drop at_.toNat).take 9) 0 0 with|some (n,k)=>((n:Int),at_+k,0)|none=>(0,0,2):=by unfold get;rw[if_neg q0];rfl
   have tN:((b.drop at_.toNat).take 9).length<=9:=by rw[a7];omega
   generalize (b.drop at_.toNat).take 9=bs at hu iW tN
   first|refine bC bZ rfl Xf rfl ?_|refine jq bZ rfl Xf rfl ?_
   refine ab G G (ad (aX ?_));refine dd (σ:=Nat×Nat) (λs=>[(1,.int .i64 at_),(25,u),(26,.int .i64 bs.length),(27,.int .i64 s.1),(7,.int .i64 s.2)]) (λs w=>w0=w/\s.1<=bs.length/\s.2<128^s.1/\oe (bs.drop s.1) s.1 s.2=oe bs 0 0) (λs=>bs.length-s.1) (0,0) a56 ?_ ?_
   ·exact⟨rfl,a8 _,by decide,rfl⟩
   ·rintro⟨k,m⟩ w1 ⟨rfl,hk,hm,hg⟩;dsimp only at hk hm hg ⊢;refine T.aQ (cx G G G (ad (aL ?_)));refine bE G (λc5=>?_) (λc5=>?_)
    ·refine aS (aL (aX (T.aQ (ab G G ?_))));refine cC (M:=M) bZ I5 G G G Xf (by repeat (first|exact bQ _ _|refine bA (bR Xf) ?_)) q0 (λavL UA Gm aq4=>?_);refine Rg.Xo (M:=M) db G G Xf (by repeat (first|exact bQ _ _|refine bA (bR Xf) ?_)) ?_;refine aN G G (Rg.aZ G G (T.aQ (ab G G (ab G G (Rg.andNot G G G (bg (congrArg _ (Gk _)) (Rg.wa db al G G q0 (ab G G (Rg.Xm G G G q0 ?_)))))))));refine Rg.shl G G G q0 (Rg.or G G G (bg (congrArg _ (Ql k m _ q0 hm q0)) (Rg.aZ G G (T.aQ (ab G G (cx G G G (ad ?_)))))));refine bE G (λc8=>?_) (λc8=>?_)
     ·refine aL (T.aQ (ab G G (fe G G G (ab G G ?_))));refine aO (g:=44) G (λpI=>?_) (λpI=>?_)
      ·refine ah G G (ab G G (ah G G (eR G G G (aU G G G (ad ?_)))));refine bE G (λc9=>?_) (λc9=>?_)
       ·refine cN (T.aQ (aN G G (aN G G (Rg.aZ G G (aJ ?_)))))
        have hr:oe bs 0 0=none:=by
         rw[<-hg]
         first
         |(rw[oh (by simpa using Gm),if_pos q0,if_pos q0])
         |(rw[fQ q0];rfl)
        exact rT rfl rfl rfl rfl ⟨by rw[iW,hr],rfl⟩
       ·refine aS (T.aQ (ab G G (ab G G (ab G G (bu G G G q0 (bu G G G q0 (aN G G (aN G G (Rg.aZ G G ?_)))))))));refine aJ ?_;have hr:oe bs 0 0=some (m+UA.toNat%128*128^k,k+1):=by rw[<-hg,oh (by simpa using Gm),if_pos q0,if_neg q0]
        exact rT rfl rfl rfl rfl ⟨by rw[iW,hr];simp;omega,rfl⟩
      ·refine aj G G G G (aj G G G G (aB G G G (ad (jF G (aS (T.aQ (ab G G (ab G G (ab G G (bu G G G q0 ?_))))))))));refine bu G G G q0 (aN G G (aN G G (Rg.aZ G G (aJ ?_))));have hr:oe bs 0 0=some (m+UA.toNat%128*128^k,k+1):=by rw[<-hg,oh (by simpa using Gm),if_pos q0,if_neg q0]
       exact rT rfl rfl rfl rfl ⟨by rw[iW,hr];simp;omega,rfl⟩
     ·refine aS (aH (bu G G G q0 (ab G G (ad ?_))));refine⟨G,(k+1,m+UA.toNat%128*128^k),a56,?_,?_⟩
      ·refine⟨rfl,by simp only;omega,?_,?_⟩
       ·have:=Nat.mul_le_mul_right (128^k) (show UA.toNat%128<=127 from by omega);simp only[Nat.pow_succ];omega
       ·rw[oh (by simpa using Gm),if_neg q0]at hg;exact hg
      ·simp only;omega
    ·refine cN (T.aQ (aN G G (aN G G (Rg.aZ G G (aJ ?_)))))
     have hr:oe bs 0 0=none:=by
      rw[<-hg]
      first
      |(rw[oh (by simpa using Gm),if_pos q0,if_pos q0])
      |(rw[fQ q0];rfl)
     exact rT rfl rfl rfl rfl ⟨by rw[iW,hr],rfl⟩
theorem BS {M:aM} {w0:World} {v u:Value} {b:List UInt8} {l:List Int} (hM:Lt M w0) (hv:(RT.u8.sl).V M w0 b v) (hu:((RT.int .i64).sl).V M w0 l u) (hb:b.length+9*(l.length+1)<=70368744177664):
  Spec Tryz.prog 195 #[v,u] w0 (λv' w'=>∃M' x,Step M w0 M' w' aC/\v'= .tuple #[x,.int .i64 (if gm (-1) l then 0 else 1)]/\Own RT.u8 5 M' w' w0.heap.size x (if gm (-1) l then b++fc l else[])):=by
 have yI:=lp (n:=l.length) q0;refine bh (args:=[_,_]) (fn:=Tryz.f195) Tryz.func195 G (n:=31) Tryz.ntmps195 (T.aQ (aN G G (Rg.aZ G G (T.aQ (ab G G (ab G G (bC az G hu G ?_)))))));refine aP G G X5 (D1 (M:=M) hM hv q0 q0) (λub wb EL=>?_);obtain⟨Mb,sb,hY⟩:=EL;refine Rg.aZ G G (T.aQ (Rg.aZ G G (aL (T.aQ (ab G G (bC az G hu G (ab G G ?_)))))));refine ad (aX ?_);refine dd (σ:=Nat×Int×Value×List UInt8) (λs=>[(0,s.2.2.1),(6,.int .i64 s.2.1),(13,u),(14,.int .i64 l.length),(15,.int .i64 s.1)]) (λs w=>gm (-1) l=gm s.2.1 (l.drop s.1)/\(gm (-1) l=true->s.2.2.2++lT s.2.1 (l.drop s.1)=b++fc l)/\s.1<=l.length/\ -1<=s.2.1/\s.2.2.2.length<=b.length+9*(s.1+1)/\∃M1,Lt M1 w/\Step M w0 M1 w aC/\Own RT.u8 5 M1 w w0.heap.size s.2.2.1 s.2.2.2) (λs=>l.length-s.1) (0,-1,_,b++put l.length) a56 ?_ ?_
 ·exact⟨rfl,λ_=>by simp[fc],a8 _,by simp only;omega,by simp;omega,Mb,sb.lt hM,sb,hY⟩
 ·rintro⟨k,last,u0,acc⟩ w1 ⟨hr,BB,hk,Uy,hal,M1,pH,s1,ho⟩;dsimp only at hr BB hk Uy hal ho ⊢;refine T.aQ (cx G G G (ad (aL ?_)));refine bE G (λc4=>?_) (λc4=>?_)
  ·refine aS (aL (aX (T.aQ ?_)));obtain⟨x,hx⟩:∃x,l[k]? =some x:=⟨_,aq q0⟩;have hxr:=NT hu hx;refine cC az I3 G G G (hu.le (s1.back).le) bS q0 (λZi Qn aeg CE=>?_);obtain rfl:Qn=x:=aI (aeg.symm.trans ad8);refine bV al G G CE bS (λ_=>?_);refine Rg.aZ G G (aL (T.aQ (ab G G (ab G G (fM G G G (ad ?_))))));refine bE G (λc6=>?_) (λc6=>?_)
   ·refine T.aQ (aN G G (Rg.aZ G G (aJ ?_)));have hrf:gm (-1) l=false:=by rw[hr,gG hx,decide_eq_false q0,eD]
    exact fA rfl rfl rfl ⟨M1,_,s1,by rw[hrf];rfl,by rw[hrf];exact eL _ _ _ _ _⟩
   ·refine aS (T.aQ (ab G G (ab G G (ab G G (Rg.Xn G G G (Rg.Xn G G G ?_))))));have hpx:=lp (n:=(Qn-last-1).toNat) q0;refine bg (v':= .int .i64 (((Qn-last-1).toNat:Nat):Int)) (by rw[IntKind.wrap_i64,IntKind.wrap_i64];congr 1;omega) ?_;have hfz:=s1.freeze (v:=u0) (λb hb=>(ho.base b hb).1);refine aP G G X5 (D1 (M:=rm M1 u0) (pH.rm u0) (ho.view q0) q0 q0) (λub wb EL=>?_);obtain⟨Mb2,sb2,al2⟩:=EL;refine Rg.aZ G G (aH (ab G G (Rg.aZ G G (aH (bu G G G q0 (ab G G (ad ?_)))))));refine⟨G,(k+1,Qn,ub,acc++put (Qn-last-1).toNat),a56,?_,?_⟩
    ·refine⟨?_,λh=>?_,by simp only;omega,by simp only;omega,by simp only[bM];omega,Mb2,sb2.lt (pH.rm u0),hfz.aw sb2,al2.jf s1.size⟩
     ·rw[hr,gG hx,decide_eq_true q0,dr]
     ·rw[<-BB h,Lq hx];simp
    ·simp only;omega
  ·refine cN (T.aQ (ab G G (aN G G (Rg.aZ G G (aJ ?_)))));have hrt:gm (-1) l=true:=by rw[hr,fQ q0];rfl
   have ha:=BB hrt;rw[fQ q0,lT,eX]at ha;exact fA rfl rfl rfl ⟨M1,_,s1,by rw[hrt];rfl,by rw[hrt,<-ha];exact ho⟩
theorem Ar {M:aM} {w0:World} {v u:Value} {b:List UInt8} {l:List Int} (hM:Lt M w0) (hv:(RT.u8.sl).V M w0 b v) (hu:((RT.int .i64).sl).V M w0 l u) (hb:b.length+9*(l.length+1)<=70368744177664):
  Spec Tryz.prog 195 #[v,u] w0 (λv' w'=>∃x,Step M w0 M w' aC/\v'= .tuple #[x,.int .i64 (if gm (-1) l then 0 else 1)]/\(RT.u8.sl).V M w' (if gm (-1) l then b++fc l else[]) x):=
 (BS hM hv hu hb).mono λ_ _ ⟨_,x,s,h,ho⟩=>⟨x,s.back,h,yF hM s ho (by
  split
  next hr=>
   have yI:=lp (n:=l.length) q0;have gD:∀x∈l,x<=9223372036854775807:=λx hx=>by obtain⟨i,hi⟩:=bK.1 hx;exact(NT hu hi).2
   have:=zm l (-1) Tg gD hr;simp only[fc,bM];omega
  next=>simp)⟩
theorem CF {M:aM} {w0:World} {be bb ba:Nat} {v:Value} {b:List UInt8} {at_:Int} (he:w0.heap[be]? =some (.cells #[.int .i64 0] 32 (0,0))) (hb:w0.heap[bb]? =some (.cells #[v] 293 (0,0))) (ha:w0.heap[ba]? =some (.cells #[.int .i64 at_] 3 (0,0))) (fw:be≠ba) (Zj:M be) (ND:M ba) (hv:(RT.u8.sl).V M w0 b v) (NC: -9223372036854775808<=at_/\at_<=9223372036854775807):
  Spec Tryz.prog 316 #[.pointer (some ⟨be,0,none⟩),.pointer (some ⟨bb,0,none⟩),.pointer (some ⟨ba,0,none⟩)] w0 (λv' w'=>v'= .int .i64 (get b at_).1/\w'.heap[be]? =some (.cells #[.int .i64 (get b at_).2.2] 32 (0,0))/\w'.heap[ba]? =some (.cells #[.int .i64 (get b at_).2.1] 3 (0,0))/\Step M w0 M w' (λk=>k=be\/k=ba)):=by
 refine bh (args:=[_,_,_]) (fn:=Tryz.f316) Tryz.func316 G (n:=15) Tryz.ntmps316 (T.aQ (Rg.aZ G G (aL (T.aQ (aR xE G G G Xf G (fm G G G (ad ?_)))))));refine bE G (λc1=>?_) (λc1=>?_)
 ·exact absurd G c1
 ·refine aS (T.aQ (Rg.aZ G G (T.aQ (aR bZ G G G Xf G (aR al G G G Xf G ?_)))));refine aP G G acH (Gl hv NC) (λr w1 h1=>?_);obtain⟨rfl,rfl⟩:=h1;refine ab G G (cI G G G (cI G G G (cI G G G (aN G G ?_))));refine cv (M:=M) I3 G G ha G G ND (λw1 h1 s1=>?_);refine cv (M:=M) I32 G G (s1.bU he fw) G G Zj (λw2 h2 s2=>?_);refine ad (T.aQ (ab G G (Rg.aZ G G (aJ (aK G G ⟨G,h2,s2.bU h1 (Ne.symm fw),?_⟩)))));exact(s1.eI (λb hb=> .inr hb) (λb hb=>by rcases hb with rfl|rfl<;>assumption)).trans s2 (λb _ hb=> .inl hb)
theorem As {M:aM} {w0:World} {v:Value} {b:List UInt8} {at_:Int} (hM:Lt M w0) (hv:(RT.u8.sl).V M w0 b v) (NC: -9223372036854775808<=at_/\at_<=9223372036854775807) (tN:b.length<=1099511627776):
  Spec Tryz.prog 304 #[v,.int .i64 at_] w0 (λv' w'=>∃x,v'= .tuple #[x,.int .i64 (gT b at_).2.2,.int .i64 (gT b at_).1]/\((RT.int .i64).sl).V M w' (gT b at_).2.1 x/\Step M w0 M w' aC):=by
 refine bh (args:=[_,_]) (fn:=Tryz.f304) Tryz.func304 G (n:=48) Tryz.ntmps304 (T.aQ ?_);refine nS M G G (λbb w1 OH avN hB s1=>?_);rw[jl hv]at hB;refine nS (ins M bb) G G (λba w2 hba avO hA s2=>?_);refine aN G G (aN G G (Rg.aZ G G (T.aQ ?_)));refine ew (ins (ins M bb) ba) I32 G (λbe w3 hbe avP hE s3=>?_);refine cv (M:=ins (ins (ins M bb) ba) be) I32 G G hE G G (.inl G) (λw4 hE4 s4=>?_);have z1:=s1.size;have z2:=s2.size;have z3:=s3.size;have z4:=s4.size;have S4:Step M w0 (ins (ins (ins M bb) ba) be) w4 aC:=((s1.aw s2).aw s3).cr s4 (λk hk=>by subst hk;omega);have hB4:=s4.bU (s3.aF (s2.aF hB)) (show bb≠be by omega);have hA4:=s4.bU (s3.aF hA) (show ba≠be by omega);refine ad (T.aQ (iS (xs:=[]) G G G (Rg.aZ G G (T.aQ (Rg.aZ G G (T.aQ ?_))))));refine Rg.aZ G G (aL (T.aQ (ab G G ?_)));refine oS (first:=[]) (xs:=[]) G G G acI (CF (M:=ins (ins (ins M bb) ba) be) hE4 hB4 hA4 q0 (.inl G) (.inr (.inl G)) (hv.le S4.le) NC) (λr w5 h5=>?_);obtain⟨rfl,hE5,hA5,s5⟩:=h5;have z5:=s5.size;have S5:=S4.cr s5 (λk hk=>by omega);have hB5:=s5.bU hB4 q0;obtain⟨hn0,hn1,hn2,hn3⟩:=o6 b at_;refine bg (v':= .int .i64 (((get b at_).1.toNat:Nat):Int)) (by rw[Bq hn0]) (Rg.aZ G G (aX ?_));refine dd (σ:=Nat×Int×Value×List Int×Int×Int) (λs=>[(7,.pointer (some ⟨be,0,none⟩)),(3,.pointer (some ⟨ba,0,none⟩)),(8,.func (.func 316) [].toArray [.pointer (some ⟨be,0,none⟩),.pointer (some ⟨bb,0,none⟩),.pointer (some ⟨ba,0,none⟩)].toArray),(9,s.2.2.1),(10,.int .i64 s.2.1),(11,.int .i64 s.1)]) (λs w=>(s.1:Int)<=9223372036854775807/\(s.2.2.2.2.1=0->gT b at_=andThen s.2.2.2.1 (iI b s.1 s.2.2.2.2.2 s.2.1))/\(s.2.2.2.2.1≠0->gT b at_=(s.2.2.2.2.1,[],0))/\(s.2.2.2.2.1=0-> -1<=s.2.1/\s.2.1<=4611686018427387904/\(s.2.2.2.1.length:Int)<=s.2.2.2.2.2/\s.2.2.2.2.2<=b.length)/\s.2.2.2.1.length<=b.length+1/\∃M1,Lt M1 w/\Step M w0 M1 w aC/\w4.heap.size<=w.heap.size/\M1 be/\M1 ba/\Own (RT.int .i64) 3 M1 w w4.heap.size s.2.2.1 s.2.2.2.1/\w.heap[be]? =some (.cells #[.int .i64 s.2.2.2.2.1] 32 (0,0))/\w.heap[ba]? =some (.cells #[.int .i64 s.2.2.2.2.2] 3 (0,0))/\w.heap[bb]? =some (.cells #[v] 293 (0,0))) (λs=>s.1) ((get b at_).1.toNat,-1,_,[],(get b at_).2.2,(get b at_).2.1) a14 ?_ ?_
 ·refine⟨by have:=Cg b at_;simp only;omega,λh=>?_,λh=>?_,λh=>?_,by simp,_,S5.lt hM,S5,z5,.inl rfl,.inr (.inl rfl),eL _ _ _ _ _,hE5,hA5,hB5⟩
  ·unfold gT;rw[if_neg a86];exact(E2 _ (Lr b _ _ _)).symm
  ·unfold gT;rw[if_pos h]
  ·have:=wy h;simp only[j5];omega
 ·rintro⟨many,last,u0,acc,e,a1⟩ wl ⟨hmb,SV,VV,fa,hal,M1,pH,S,zl,Zj,ND,ho,hE,hA,hB⟩;dsimp only at hmb SV VV fa hal ho hE hA hB ⊢;refine aL (T.aQ (ab G G (eR G G G (ab G G ?_))));refine aO (g:=18) G (λzK=>?_) (λzK=>?_)
  ·refine ah G G (aR xE G G G Xf G (ah G G (fe G G G (aU G G G (ad ?_)))));refine bE G (λc6=>?_) (λc6=>?_)
   ·refine aS (aL (aX (T.aQ (ab G G ?_))));refine oS (first:=[]) (xs:=[]) rfl rfl rfl acI (CF (M:=M1) (by rw[c6]at hE;exact hE) hB hA q0 Zj ND (hv.le S.le) (by have:=fa c6;omega)) (λr w6 h6=>?_);obtain⟨rfl,hE6,Kw,s6⟩:=h6;have z6:=s6.size;have S6:=S.cr s6 (λk hk=>by omega);have Kx:=s6.bU hB q0;have Ag:=ho.step s6 (λk hk h=>by have:=(ho.base k hk).1;omega);have Qo:=s6.lt pH;obtain⟨hn0,hn1,hn2,hn3⟩:=o6 b a1;obtain⟨qt,Dh,hk3,hk4⟩:=fa c6;refine Rg.aZ G G (aL (T.aQ (aR xE G G G Xf G (fe G G G (ab G G ?_)))));refine aO (g:=28) G (λpI=>?_) (λpI=>?_)
    ·refine ah G G (ab G G (ah G G (ab G G (ah G G (jR G G G q0 (ah G G (jR G G G q0 (ah G G (eR G G G (aU G G G (ad ?_)))))))))));refine bE G (λc9=>?_) (λc9=>?_)
     ·refine aH ?_;refine cv (M:=M1) I32 G G hE6 G G Zj (λw7 hE7 s7=>?_);have z7:=s7.size;replace S6:=S6.cr s7 (λk hk=>by subst hk;omega);replace Kx:=s7.bU Kx (show bb≠be by omega);replace Kw:=s7.bU Kw (show ba≠be by omega);replace Ag:=Ag.step s7 (λk hk h=>by have:=(ho.base k hk).1;omega);replace Qo:=s7.lt Qo;replace hE6:=hE7;refine ad (T.aQ (ab G G (ab G G (Rg.y4 G G G (Rg.y4 G G G (Rg.aZ G G (aH (ab G G (ab G G ?_)))))))));refine fz (A:=RT.int .i64) (hn:=by decide) (M:=M1) az I3 Tg G G Qo (hU (tB _)) (.inr ⟨G,G⟩) (λu w8 hu s8=>?_);refine dJ (M:=M1) (base:=w4.heap.size) az I3 rfl rfl rfl rfl (Ag.bP s8) hu bS a11 a11 (by have:=s8.size;omega) (λv9 M9 w9 ho9 s9=>?_);have z8:=s8.size;have z9:=s9.size;have jt:∀k,k<w4.heap.size->¬ng u0 k:=λk hk h=>by have:=(ho.base k h).1;omega
      have Qp:=s9.bU (s8.aF hE6) (jt be q0);have hA9:=s9.bU (s8.aF Kw) (jt ba q0);have hB9:=s9.bU (s8.aF Kx) (jt bb q0);have S9:=(S6.aw s8).dX s9 (Ag.bP s8) q0;have hM9:=s9.lt (s8.lt Qo);have Qq:M9 be:=(s9.mem be q0).2 Zj;have Qr:M9 ba:=(s9.mem ba q0).2 ND;refine Rg.aZ G G (aH (ab G G (jR G G G q0 (Rg.aZ G G ?_))));refine⟨G,(many-1,(IntKind.i64.wrap (last+IntKind.i64.wrap ((get b a1).1+1))),v9,acc++[(IntKind.i64.wrap (last+IntKind.i64.wrap ((get b a1).1+1)))],(if(get b a1).2.2=0/\4611686018427387904-last-1<(get b a1).1 then 2 else(get b a1).2.2),(get b a1).2.1),a61,?_,?_⟩
      ·have hx:(get b a1).2.2=0->¬4611686018427387904-last-1<(get b a1).1->(IntKind.i64.wrap (last+IntKind.i64.wrap ((get b a1).1+1)))=last+1+(get b a1).1:=λh1 h2=>by rw[kb ((get b a1).1+1) q0,kb _ q0];omega
       have VK:many=(many-1)+1:=by omega
       have Au:=SV c6;rw[VK]at Au;refine⟨by simp only;omega,λh=>?_,λh=>?_,λh=>?_,by have:=fa c6;simp only[bM,cJ,j5];omega,M9,hM9,S9,by omega,Qq,Qr,ho9,?_,hA9,hB9⟩
       ·dsimp only at h ⊢;have h3:(get b a1).2.2=0/\¬4611686018427387904-last-1<(get b a1).1:=by split at h<;>omega
        rw[Au,o5 acc h3.1 h3.2,hx h3.1 h3.2]
       ·dsimp only at h ⊢;rw[Au]
        split
        ·rename_i h4;rw[wz h4.1 h4.2];rfl
        ·rename_i h4
         have h5:(get b a1).2.2≠0:=by intro h6;rw[if_neg h4]at h;exact h h6
         rw[te h5];unfold andThen;rw[if_pos h5]
       ·dsimp only at h ⊢;have h3:(get b a1).2.2=0/\¬4611686018427387904-last-1<(get b a1).1:=by split at h<;>omega
        have:=wy h3.1;rw[hx h3.1 h3.2];simp only[bM,cJ,j5];omega
       ·dsimp only
        first
        |(rw[if_pos ⟨pI,c9⟩];exact Qp)
        |(rw[if_neg (λh=>c9 h.2)];exact Qp)
        |(rw[if_neg (λh=>pI h.1)];exact Qp)
      ·simp only;omega
     ·refine aS (T.aQ (ab G G (ab G G (Rg.y4 G G G (Rg.y4 G G G (Rg.aZ G G (aH (ab G G (ab G G ?_)))))))));refine fz (A:=RT.int .i64) (hn:=by decide) (M:=M1) az I3 Tg G G Qo (hU (tB _)) (.inr ⟨G,G⟩) (λu w8 hu s8=>?_);refine dJ (M:=M1) (base:=w4.heap.size) az I3 rfl rfl rfl rfl (Ag.bP s8) hu bS a11 a11 (by have:=s8.size;omega) (λv9 M9 w9 ho9 s9=>?_);have z8:=s8.size;have z9:=s9.size;have jt:∀k,k<w4.heap.size->¬ng u0 k:=λk hk h=>by have:=(ho.base k h).1;omega
      have Qp:=s9.bU (s8.aF hE6) (jt be q0);have hA9:=s9.bU (s8.aF Kw) (jt ba q0);have hB9:=s9.bU (s8.aF Kx) (jt bb q0);have S9:=(S6.aw s8).dX s9 (Ag.bP s8) q0;have hM9:=s9.lt (s8.lt Qo);have Qq:M9 be:=(s9.mem be q0).2 Zj;have Qr:M9 ba:=(s9.mem ba q0).2 ND;refine Rg.aZ G G (aH (ab G G (jR G G G q0 (Rg.aZ G G ?_))));refine⟨G,(many-1,(IntKind.i64.wrap (last+IntKind.i64.wrap ((get b a1).1+1))),v9,acc++[(IntKind.i64.wrap (last+IntKind.i64.wrap ((get b a1).1+1)))],(if(get b a1).2.2=0/\4611686018427387904-last-1<(get b a1).1 then 2 else(get b a1).2.2),(get b a1).2.1),a61,?_,?_⟩
      ·have hx:(get b a1).2.2=0->¬4611686018427387904-last-1<(get b a1).1->(IntKind.i64.wrap (last+IntKind.i64.wrap ((get b a1).1+1)))=last+1+(get b a1).1:=λh1 h2=>by rw[kb ((get b a1).1+1) q0,kb _ q0];omega
       have VK:many=(many-1)+1:=by omega
       have Au:=SV c6;rw[VK]at Au;refine⟨by simp only;omega,λh=>?_,λh=>?_,λh=>?_,by have:=fa c6;simp only[bM,cJ,j5];omega,M9,hM9,S9,by omega,Qq,Qr,ho9,?_,hA9,hB9⟩
       ·dsimp only at h ⊢;have h3:(get b a1).2.2=0/\¬4611686018427387904-last-1<(get b a1).1:=by split at h<;>omega
        rw[Au,o5 acc h3.1 h3.2,hx h3.1 h3.2]
       ·dsimp only at h ⊢;rw[Au]
        split
        ·rename_i h4;rw[wz h4.1 h4.2];rfl
        ·rename_i h4
         have h5:(get b a1).2.2≠0:=by intro h6;rw[if_neg h4]at h;exact h h6
         rw[te h5];unfold andThen;rw[if_pos h5]
       ·dsimp only at h ⊢;have h3:(get b a1).2.2=0/\¬4611686018427387904-last-1<(get b a1).1:=by split at h<;>omega
        have:=wy h3.1;rw[hx h3.1 h3.2];simp only[bM,cJ,j5];omega
       ·dsimp only
        first
        |(rw[if_pos ⟨pI,c9⟩];exact Qp)
        |(rw[if_neg (λh=>c9 h.2)];exact Qp)
        |(rw[if_neg (λh=>pI h.1)];exact Qp)
      ·simp only;omega
    ·refine aj G G G G (aj G G G G (aj G G G G (aj G G G G (aj G G G G (aB G G G (ad (jF G (aS (T.aQ (ab G G ?_))))))))));refine ab G G (Rg.y4 G G G (Rg.y4 G G G (Rg.aZ G G (aH (ab G G (ab G G ?_))))));refine fz (A:=RT.int .i64) (hn:=by decide) (M:=M1) az I3 Tg G G Qo (hU (tB _)) (.inr ⟨G,G⟩) (λu w8 hu s8=>?_);refine dJ (M:=M1) (base:=w4.heap.size) az I3 rfl rfl rfl rfl (Ag.bP s8) hu bS a11 a11 (by have:=s8.size;omega) (λv9 M9 w9 ho9 s9=>?_);have z8:=s8.size;have z9:=s9.size;have jt:∀k,k<w4.heap.size->¬ng u0 k:=λk hk h=>by have:=(ho.base k h).1;omega
     have Qp:=s9.bU (s8.aF hE6) (jt be q0);have hA9:=s9.bU (s8.aF Kw) (jt ba q0);have hB9:=s9.bU (s8.aF Kx) (jt bb q0);have S9:=(S6.aw s8).dX s9 (Ag.bP s8) q0;have hM9:=s9.lt (s8.lt Qo);have Qq:M9 be:=(s9.mem be q0).2 Zj;have Qr:M9 ba:=(s9.mem ba q0).2 ND;refine Rg.aZ G G (aH (ab G G (jR G G G q0 (Rg.aZ G G ?_))));refine⟨G,(many-1,(IntKind.i64.wrap (last+IntKind.i64.wrap ((get b a1).1+1))),v9,acc++[(IntKind.i64.wrap (last+IntKind.i64.wrap ((get b a1).1+1)))],(if(get b a1).2.2=0/\4611686018427387904-last-1<(get b a1).1 then 2 else(get b a1).2.2),(get b a1).2.1),a61,?_,?_⟩
     ·have hx:(get b a1).2.2=0->¬4611686018427387904-last-1<(get b a1).1->(IntKind.i64.wrap (last+IntKind.i64.wrap ((get b a1).1+1)))=last+1+(get b a1).1:=λh1 h2=>by rw[kb ((get b a1).1+1) q0,kb _ q0];omega
      have VK:many=(many-1)+1:=by omega
      have Au:=SV c6;rw[VK]at Au;refine⟨by simp only;omega,λh=>?_,λh=>?_,λh=>?_,by have:=fa c6;simp only[bM,cJ,j5];omega,M9,hM9,S9,by omega,Qq,Qr,ho9,?_,hA9,hB9⟩
      ·dsimp only at h ⊢;have h3:(get b a1).2.2=0/\¬4611686018427387904-last-1<(get b a1).1:=by split at h<;>omega
       rw[Au,o5 acc h3.1 h3.2,hx h3.1 h3.2]
      ·dsimp only at h ⊢;rw[Au]
       split
       ·rename_i h4;rw[wz h4.1 h4.2];rfl
       ·rename_i h4
        have h5:(get b a1).2.2≠0:=by intro h6;rw[if_neg h4]at h;exact h h6
        rw[te h5];unfold andThen;rw[if_pos h5]
      ·dsimp only at h ⊢;have h3:(get b a1).2.2=0/\¬4611686018427387904-last-1<(get b a1).1:=by split at h<;>omega
       have:=wy h3.1;rw[hx h3.1 h3.2];simp only[bM,cJ,j5];omega
      ·dsimp only
       first
       |(rw[if_pos ⟨pI,c9⟩];exact Qp)
       |(rw[if_neg (λh=>c9 h.2)];exact Qp)
       |(rw[if_neg (λh=>pI h.1)];exact Qp)
     ·simp only;omega
   ·refine cN (aL (T.aQ (aR xE G G G Xf G (fm G G G (ad ?_)))));refine bE G (λxS=>?_) (λxS=>?_)
    ·refine aL ?_;apply vV mixed rfl rfl;intro Uw Qf;have qh:=Qf M1;refine aR xE G G G (by first|assumption|exact ch qh Xf) G (Rg.dh (aN G G (Rg.dh (aN G G (Rg.dh (aN G G (Rg.dh (fL (aJ ?_)))))))));have hr:=VV xS;exact rT rfl rfl rfl rfl ⟨_,by rw[hr]<;>rfl,by rw[hr];exact gZ,(S.aw qh).back⟩
    ·refine aS (aL ?_);apply vV mixed rfl rfl;intro Zk Qs;have qi:=Qs M1;refine ab G G (Rg.dh (aR al G G G (by first|assumption|exact ch qi Xf) G (Rg.dh (aN G G (Rg.dh (aN G G (Rg.dh (aN G G (Rg.dh (fL (aJ ?_)))))))))));have hz:many=0:=by omega
     have hr:=SV q0;rw[hz,zn]at hr;simp only[andThen,ne_eq,not_true_eq_false,if_false,eX]at hr;have S15:=S.aw qi;refine rT rfl rfl rfl rfl ⟨_,by rw[hr]<;>rfl,?_,S15.back⟩;rw[hr];exact yF hM S15 ((ho.bP qi).jf q0) ak8
  ·refine aj G G G G (aj G G G G (aB G G G (ad (jF G (cN (aL (T.aQ (aR xE G G G Xf G (fm G G G (ad ?_))))))))));refine bE G (λxS=>?_) (λxS=>?_)
   ·refine aL ?_;apply vV mixed rfl rfl;intro Uw Qf;have qh:=Qf M1;refine aR xE G G G (by first|assumption|exact ch qh Xf) G (Rg.dh (aN G G (Rg.dh (aN G G (Rg.dh (aN G G (Rg.dh (fL (aJ ?_)))))))));have hr:=VV xS;exact rT rfl rfl rfl rfl ⟨_,by rw[hr]<;>rfl,by rw[hr];exact gZ,(S.aw qh).back⟩
   ·refine aS (aL ?_);apply vV mixed rfl rfl;intro Zk Qs;have qi:=Qs M1;refine ab G G (Rg.dh (aR al G G G (by first|assumption|exact ch qi Xf) G (Rg.dh (aN G G (Rg.dh (aN G G (Rg.dh (aN G G (Rg.dh (fL (aJ ?_)))))))))));have hz:many=0:=by omega
    have hr:=SV q0;rw[hz,zn]at hr;simp only[andThen,ne_eq,not_true_eq_false,if_false,eX]at hr;have S15:=S.aw qi;refine rT rfl rfl rfl rfl ⟨_,by rw[hr]<;>rfl,?_,S15.back⟩;rw[hr];exact yF hM S15 ((ho.bP qi).jf q0) ak8
theorem Ky {M:aM} {w0:World} {v:Value} {x:Li} (hv:cO RT.li M w0 v x) {k:Int}:
  Spec Tryz.prog 272 #[v,.int .i64 k] w0 (λv' w'=>v'= .bool (Om x.2.1.length k)/\w0=w'):=by
 refine bh (args:=[_,_]) (fn:=Tryz.f272) Tryz.func272 G (n:=16) Tryz.ntmps272 (T.aQ (Rg.aZ G G (T.aQ (ab G G (eB G G G (ab G G ?_))))));refine aO (g:=7) G (λiO=>?_) (λiO=>?_)
 ·refine ah G G (ab G G (ah G G (ab G G (ah G G (bm G (cO.mC Xf) G (ah G G ?_))))));refine ao (M:=M) (A:=RT.li) (B:=(RT.bl).sl) eH G G HP Tg (li1) G G Tg Xf (by repeat (first|exact bQ _ _|refine bA (bR Xf) ?_)) (λavW arb=>?_);refine ah G G ?_;refine bB (M:=M) fC G G G G G Xf (by repeat (first|exact bQ _ _|refine bA (bR Xf) ?_)) (λaen Qt=>?_);refine ah G G ?_
  first|refine bC fC rfl Xf rfl ?_|refine jq fC rfl Xf rfl ?_
  refine ah G G (cx G G G (aU G G G (Rg.aZ G G (aJ ?_))))
  first
  |exact a74
  |exact a73
 ·refine aj G G G G (aj G G G G (aj G G G G (aj G G G G (aj G G G G (aj G G G G (aj G G G G (aB G G G (Rg.aZ G G (aJ ?_)))))))))
  first
  |exact a74
  |exact a73
theorem nz {M:aM} {w0:World} {v:Value} {x:Li} (hv:cO RT.li M w0 v x):
  Spec Tryz.prog 221 #[v] w0 (λv' w'=>v'= .int .i64 x.2.1.length/\w0=w'):=by
 refine bh (args:=[_]) (fn:=Tryz.f221) Tryz.func221 G (n:=8) Tryz.ntmps221 (T.aQ (Rg.aZ G G (T.aQ (ab G G (bm G (cO.mC Xf) G ?_)))));refine ao (M:=M) (A:=RT.li) (B:=(RT.bl).sl) eH G G HP Tg (li1) G G Tg Xf (by repeat (first|exact bQ _ _|refine bA (bR Xf) ?_)) (λYW F8=>?_);refine bB (M:=M) fC G G G G G Xf (by repeat (first|exact bQ _ _|refine bA (bR Xf) ?_)) (λYX Ku=>?_)
 first|refine bC fC rfl Xf rfl ?_|refine jq fC rfl Xf rfl ?_
 refine Rg.aZ G G (aJ ?_);exact am3
theorem Me {M:aM} {w0:World} {v:Value} {x:Li} (hv:cO RT.li M w0 v x) {k:Int}:
  Spec Tryz.prog 222 #[v,.int .i64 k] w0 (λv' w'=>v'= .int .i64 (E3 x.2.1 k)/\w0=w'):=by
 refine bh (args:=[_,_]) (fn:=Tryz.f222) Tryz.func222 G (n:=17) Tryz.ntmps222 (T.aQ (Rg.aZ G G (aL (T.aQ (ab G G (ab G G ?_))))));refine aP G G acG (Ky hv (k:=k)) (λr w1 h1=>?_);obtain⟨rfl,rfl⟩:=h1;refine fV G G (bg (v':= .bool (decide (¬(0<=k/\k<x.2.1.length)))) (by unfold Om;rw[decide_not]) (ad ?_));refine bE G (λc1=>?_) (λc1=>?_)
 ·refine T.aQ (Rg.aZ G G (aJ ?_));exact aK G G ⟨by unfold E3 Om;rw[if_neg (by simpa using c1)],rfl⟩
 ·refine aS (T.aQ (ab G G (bm G (cO.mC Xf) G ?_)));refine ao (M:=M) (A:=RT.li) (B:=(RT.bl).sl) eH G G HP Tg (li1) G G Tg Xf (by repeat (first|exact bQ _ _|refine bA (bR Xf) ?_)) (λUc Af=>?_);refine bB (M:=M) fC G G G G G Xf (by repeat (first|exact bQ _ _|refine bA (bR Xf) ?_)) (λaeo Wr=>?_);refine ab G G ?_;obtain⟨b,hb⟩:∃b,x.2.1[k.toNat]? =some b:=⟨_,aq q0⟩;refine cC fC BI G G G Xf bS q0 (λZl Zm Qu Qv=>?_);obtain rfl:Zm=b:=aI (Qu.symm.trans hb);refine ao (M:=M) (A:=RT.bl) (B:=RT.int .i64) l9 G G I3 Tg (bl2) G G Tg Xf (by repeat (first|exact bQ _ _|refine bA (bR Xf) ?_)) (λavX arc=>?_);refine bV (M:=M) al G G Xf (by repeat (first|exact bQ _ _|refine bA (bR Xf) ?_)) (λard=>?_);refine Rg.aZ G G (aJ ?_);exact aK G G ⟨by unfold E3 Om;rw[if_pos (by simpa using c1),cg,hb];rfl,rfl⟩
theorem IA {M:aM} {w0:World} {v:Value} {b:List UInt8} {at_ ahead:Int} (hM:Lt M w0) (hv:(RT.u8.sl).V M w0 b v) (NC: -9223372036854775808<=at_/\at_<=9223372036854775807) (hah: -9223372036854775808<=ahead/\ahead<=9223372036854775807) (tN:b.length<=1099511627776):
  Spec Tryz.prog 273 #[v,.int .i64 at_,.int .i64 ahead] w0 (λv' w'=>∃p,v'= .tuple #[p,.int .i64 (rX b at_ ahead).2.1,.int .i64 (rX b at_ ahead).2.2]/\RT.po.V M w' (rX b at_ ahead).1 p/\Step M w0 M w' aC):=by
 refine bh (args:=[_,_,_]) (fn:=Tryz.f273) Tryz.func273 G (n:=38) Tryz.ntmps273 (T.aQ ?_);refine ew M jg G (λb0 w1 zH avY hB s1=>?_);have pH:=s1.lt hM;have kg:=hv.le s1.le;refine aN G G (Rg.aZ G G (T.aQ (ab G G (ab G G ?_))));refine aP G G acH (Gl kg NC) (λr w2 h2=>?_);obtain⟨rfl,rfl⟩:=h2;have y9:=Cg b at_;obtain⟨hn0,hn1,hn2,hn3⟩:=o6 b at_;refine ab G G (cI G G G (cI G G G (cI G G G (aN G G (aN G G (Rg.aZ G G (aL (T.aQ (ab G G ?_)))))))));refine fm G G G (ad ?_);refine bE G (λc2=>?_) (λc2=>?_)
 ·refine T.aQ (dw (places:=[(0,1),(1,1)]) cw jg TT G G (out:=[.int .i64 0,.slice none 0 0]) G (ab G G ?_));refine cY (M:=ins M b0) jg G G ai0 rfl rfl hB (.inl rfl) (λw3 hB3 s3=>?_);refine aN G G (Rg.aZ G G (aJ ?_));have lC:=s1.size;have S:Step M w0 M w3 aC:=(s1.cr s3 (λk hk=>by subst hk;omega)).back;refine Oj G G cw G jg G hB3 G G ⟨_,by unfold rX;rw[if_pos c2]<;>rfl,?_,S⟩;unfold rX;rw[if_pos c2];exact fJ (hU (x:=0) q0) gZ G G G G
 ·refine aS (T.aQ (ab G G (ab G G ?_)));have fa:=wy (b:=b) (at_:=at_) q0;refine aP G G aj8 (As (M:=ins M b0) pH kg q0 tN) (λr w3 h3=>?_);obtain⟨x3,rfl,hx3,s3⟩:=h3;refine ab G G (cI G G G (cI G G G (cI G G G (aN G G (aN G G (Rg.aZ G G (T.aQ (ab G G (Rg.y4 G G G ?_)))))))));refine ab rfl rfl (Rg.y4 rfl rfl rfl (ab rfl rfl (dw (places:=[(0,1),(1,1)]) cw jg TT rfl ⟨_,_,rfl,rfl,_,_,rfl,rfl,rfl⟩ (out:=[_,_]) ⟨0,[_],rfl,rfl,by simp[Value.cells],1,[_],rfl,jl hx3,by simp[Value.cells],rfl⟩ (ab rfl rfl (ab rfl rfl ?_)))));obtain⟨vx,zV⟩:∃vx,vx=x3:=⟨_,rfl⟩;have sN:=jL hx3 rfl rfl;refine cY (M:=ins M b0) jg G G (by intro u hu;simp at hu;rcases hu with rfl|rfl;rfl;exact sN) G G (s3.aF hB) (.inl G) (λw4 hB4 s4=>?_);refine aN G G (Rg.aZ G G (aJ ?_));have lC:=s1.size;have avZ:=s3.size;have S3:=s1.aw s3;have S:Step M w0 M w4 aC:=(S3.cr s4 (λk hk=>by subst hk;omega)).back;refine Oj G G cw G jg G hB4 G G ⟨_,by unfold rX;rw[if_neg c2]<;>rfl,?_,S⟩;unfold rX;rw[if_neg c2];have hx4:=(hx3.le s4.le).le (lE hM (S3.cr s4 (λk hk=>by subst hk;omega)));exact fJ (hU E1) hx4 G G G G
theorem IB {M:aM} {w0:World} {v:Value} {l:List Po} {k:Int} (hM:Lt M w0) (hv:cO RT.li M w0 v (lr l)) (uO:eP (-1) l=true) (sO:∀p∈l,p.2.length<=1099511627776) (tN:(eJ (-1) l).length<=1099511627776):
  Spec Tryz.prog 223 #[v,.int .i64 k] w0 (λv' w'=>Step M w0 M w' aC/\((RT.po).sl).V M w' (if Om ((l.length+7)/8) k then(l.drop (8*k.toNat)).take 8 else[]) v'):=by
 have UB:(lr l).2.1.length=(l.length+7)/8:=by simp[lr,qb]
 refine bh (args:=[_,_]) (fn:=Tryz.f223) Tryz.func223 G (n:=51) Tryz.ntmps223 (T.aQ (Rg.aZ G G (aL (T.aQ (ab G G (ab G G ?_))))));refine aP G G acG (Ky hv (k:=k)) (λr w1 h1=>?_);obtain⟨rfl,rfl⟩:=h1;refine fV G G (bg (v':= .bool (decide (¬(0<=k/\k<(lr l).2.1.length)))) (by unfold Om;rw[decide_not]) (ad ?_));refine bE G (λc1=>?_) (λc1=>?_)
 ·refine T.aQ (Rg.aZ G G (aJ (aK G G ⟨aV,?_⟩)));rw[if_neg (by unfold Om;rw[UB]at c1;simpa using c1)];exact gZ
 ·refine aS (T.aQ (ab G G (bm G (cO.mC Xf) G ?_)));refine ao (M:=M) (A:=RT.li) (B:=(RT.bl).sl) eH G G HP Tg (li1) G G Tg Xf (by repeat (first|exact bQ _ _|refine bA (bR Xf) ?_)) (λUc Af=>?_);refine bB (M:=M) fC G G G G G Xf (by repeat (first|exact bQ _ _|refine bA (bR Xf) ?_)) (λaeo Wr=>?_);refine ab G G ?_;obtain⟨j,rfl⟩:∃j:Nat,k=j:=⟨k.toNat,by omega⟩;have hb:(lr l).2.1[j]? =some (um l j):=by simp only[lr,qb,ek];rw[List.getElem?_range q0];rfl
  refine cC fC BI G G G Xf bS q0 (λZl Zm Qu Qv=>?_);obtain rfl:Zm=um l j:=aI (Qu.symm.trans (by simpa using hb));have Wj:(um l j).2.2.2=(((l.drop (8*j)).take 8).length:Int):=rfl;have arf:((l.drop (8*j)).take 8).length<=8:=by rw[a7];omega
  refine bN (M:=M) (A:=RT.bl) l9 G BI Tg G G G Xf (by repeat (first|exact bQ _ _|refine bA (bR Xf) ?_)) (λUC xX=>?_);refine pT (A:=RT.bl) (M:=M) BI G G G G G Xf (by repeat (first|exact bQ _ _|refine bA (bR Xf) ?_)) a69 (λal6 Zn arh Zo av1=>?_);refine ad (T.aQ (Rg.aZ G G (aL (aL ?_))));apply T.draw (M:=M) mixed [cj.ptr (RT.int .i64) (um l j).1,cj.eq _,cj.ptr (RT.int .i64) (um l j).2.1,cj.eq _,cj.eq _,cj.eq _]
  ·rfl
  ·refine aE ?_ ?_
   ·intro wD E sD;refine ao (M:=M) (A:=RT.bl) (B:=RT.int .i64) l9 G G I3 Tg (bl0) G G Tg Xf (by repeat (first|exact bQ _ _|refine bA (bR Xf) ?_)) (λZi CE=>?_);exact ad ⟨G,G,_,G,by assumption,aV⟩
   refine aE ?_ ?_
   ·intro wD E sD;intro v0 qA;refine bV (M:=M) al G G Xf (by repeat (first|exact bQ _ _|refine bA (bR Xf) ?_)) (λWs=>?_);exact a01
   refine aE ?_ ?_
   ·intro wD E sD;refine ao (M:=M) (A:=RT.bl) (B:=RT.int .i64) l9 G G I3 Tg (bl1) G G Tg Xf (by repeat (first|exact bQ _ _|refine bA (bR Xf) ?_)) (λaeq uP=>?_);exact ad ⟨G,G,_,G,by assumption,aV⟩
   refine aE ?_ ?_
   ·intro wD E sD;intro v2 yL;refine bV (M:=M) al G G Xf (by repeat (first|exact bQ _ _|refine bA (bR Xf) ?_)) (λQw=>?_);exact a01
   refine aE ?_ ?_
   ·intro wD E sD;refine au ?_;intro v0 qA;refine au (aN G G ?_);exact a01
   refine aE ?_ ?_
   ·intro wD E sD;refine au (au ?_);intro v0 qA;refine au ?_;intro v2 yL;refine au (au (aN G G ?_));exact a01
   exact rI
  ·intro wD5 Ux;intro av2 ari;refine au ?_;intro akN V8;refine au (au (au (aX ?_)));have hz5:=Zo.size;refine dd (σ:=Nat×Value) (λs=>[(0,v),(5,al6),(6,s.2),(7,.int .i64 (eJ (-1) (l.take (8*j+s.1))).length),(8,.int .i64 (cV (-1) (l.take (8*j+s.1))))]) (λs w=>s.1<=((l.drop (8*j)).take 8).length/\∃M1,Lt M1 w/\Step M w0 M1 w aC/\Step M Zn M1 w aC/\Own RT.po 188 M1 w Zn.heap.size s.2 (((l.drop (8*j)).take 8).take s.1)) (λs=>((l.drop (8*j)).take 8).length-s.1) (0,_) a56 ?_ ?_
   ·exact⟨a8 _,M,Ux.lt (Zo.lt hM),Zo.aw Ux,Ux,eL _ _ _ _ _⟩
   ·rintro⟨i,u0⟩ w1 ⟨hi,M1,pH,S,S5,ho⟩;dsimp only at hi ho ⊢;refine aL (T.aQ (ab G G (jq bJ G ho G (bg (v':= .int .i64 i) (by rw[a7,yT hi]) ?_))));refine ao (M:=M1) (A:=RT.bl) (B:=RT.int .i64) l9 G G I3 Tg (bl3) G G Tg Xf (by repeat (first|exact bQ _ _|refine bA (bR Xf) ?_)) (λac5 aer=>?_);refine bV al G G aer bS (λark=>?_);refine bg (v':= .int .i64 ((l.drop (8*j)).take 8).length) G (cx G G G (ad ?_));refine bE G (λc6=>?_) (λc6=>?_)
    ·refine aS (aX (T.aQ (ab G G (bm G (cO.mC Xf) G ?_))));refine ao (M:=M1) (A:=RT.li) (B:=RT.u8.sl) eH G G Fj Tg (li0) G G Tg Xf (by repeat (first|exact bQ _ _|refine bA (bR Xf) ?_)) (λadU su=>?_);refine bB (M:=M1) bZ G G G G G Xf (by repeat (first|exact bQ _ _|refine bA (bR Xf) ?_)) (λav3 aes=>?_);refine ab G G (ab G G ?_);obtain⟨⟨d,ps⟩,hx⟩:∃x,l[8*j+i]? =some x:=⟨_,aq (by rw[a7,cW]at c6;omega)⟩;obtain⟨f1,f2,f3,f4,f5,f6⟩:=qF uO hx;have htk:rX (lr l).1 _ _=_:=On uO hx (sO _ (av hx));have Lc:(eJ (-1) (l.take (8*j+i))).length<=(eJ (-1) l).length:=by rw[qG (l:=l) (i:=8*j+i) (-1)];simp
     refine aP G G aj4 (IA (M:=M1) pH aes q0 q0 tN) (λr7 w7 h7=>?_);obtain⟨p7,h7e,hp7,s7⟩:=h7;rw[htk]at h7e hp7;subst h7e;change RT.po.V M1 w7 (d,ps) p7 at hp7;replace S:=S.aw s7;replace S5:=S5.aw s7;replace ho:=ho.bP s7;replace pH:=s7.lt pH;have hci:((l.drop (8*j)).take 8)[i]? =some (d,ps):=by rw[dm,if_pos q0,iB];exact hx
     refine ab G G (cI G G G (cI G G G (cI G G G ?_)));refine pT (A:=RT.po) (M:=M1) jg G G G G G Xf (by repeat (first|exact bQ _ _|refine bA (bR Xf) ?_)) a69 (λarn aro Qx Kz arp=>?_);refine aN G G (Rg.aZ G G (T.aQ (ab G G ?_)));replace S:=S.aw Kz;replace S5:=S5.aw Kz;replace ho:=ho.bP Kz;replace pH:=Kz.lt pH;clear hp7;refine bN (A:=RT.po) cw G jg Tg G G G Qx bS (λv8 EH=>?_);refine fz (A:=RT.po) (hn:=by decide) (M:=M1) bJ jg Tg G G pH EH (.inl G) (λu2 w2 dY s2=>?_);refine dJ (M:=M1) (base:=Zn.heap.size) bJ jg rfl rfl rfl rfl (ho.bP s2) dY bS a11 a11 (dz S5.size s2.size) (λv3 M3 w3 SU s3=>?_);replace S:=(S.aw s2).dX s3 (ho.bP s2) hz5;have hu9:=(Qx.le Tg s2.le).le Tg s3.le;have Qz:=s3.lt (s2.lt pH);replace S5:=(S5.aw s2).dX s3 (ho.bP s2) (bz _);refine Rg.aZ G G ?_;apply T.draw (M:=M3) mixed [cj.eq _,cj.ptr (RT.int .i64) d,cj.eq _,cj.eq _,cj.eq _]
     ·rfl
     ·refine aE ?_ ?_
      ·intro wD E sD;refine ab G G ?_;exact a01
      refine aE ?_ ?_
      ·intro wD E sD;refine ao (M:=M3) (A:=RT.po) (B:=RT.int .i64) cw G G I3 Tg (SP) G G Tg hu9 sD.le (λalx Qa=>?_);exact ad ⟨G,G,_,G,Qa,aV⟩
      refine aE ?_ ?_
      ·intro wD E sD;intro v1 kg;refine bV (M:=M3) al G G Xf (by repeat (first|exact bQ _ _|refine bA (bR Xf) ?_)) (λarq=>?_);exact a01
      refine aE ?_ ?_
      ·intro wD E sD;refine au (au (aN G G ?_));exact a01
      refine aE ?_ ?_
      ·intro wD E sD;refine au (au (au ?_));intro v1 kg;refine au (au (aN G G ?_));exact a01
      exact rI
     ·intro Wt BT;refine au ?_;intro av5 ars;refine au (au (au ?_));refine⟨rfl,(i+1,v3),(.cons rfl (.cons rfl (.cons rfl (.cons rfl (.cons (by rw[<-f5];rfl) .nil))))),?_,?_⟩
      ·refine ⟨by simp only;omega,M3,BT.lt Qz,S.aw BT,S5.aw BT,?_⟩;simp only;obtain⟨hc1,Nv⟩:=an.1 hci;rw[eQ hc1,Nv];exact SU.bP BT
      ·simp only;omega
    ·refine cN (T.aQ (ab G G (Rg.aZ G G (aJ (aK G G ⟨S.back,?_⟩)))));rw[if_pos (by unfold Om;rw[UB]at c1;simpa using c1),ar];rw[bp q0]at ho;exact yF hM S (ho.jf hz5) q0
theorem Gn {M:aM} {w0:World} {v:Value} {l:List Int} (hv:((RT.int .i64).sl).V M w0 l v):
  Spec Tryz.prog 264 #[v] w0 (λv' w'=>v'= .bool (o7 l)/\w0=w'):=by
 have hlen:=cU hv;refine bh (args:=[_]) (fn:=Tryz.f264) Tryz.func264 G (n:=32) Tryz.ntmps264 (T.aQ (Rg.aZ G G (aL (T.aQ (ab G G ?_)))))
 first|refine bC az rfl Xf rfl ?_|refine jq az rfl Xf rfl ?_
 refine ab G G (ad (aX ?_));refine dd (σ:=Nat×Int) (λs=>[(0,v),(5,v),(6,.int .i64 l.length),(7,.int .i64 s.1)]) (λs w=>w0=w/\s.1<=l.length/\o7 l=(gm s.2 (l.drop s.1)&&(l.drop s.1).all (λn=>decide (n<2147483648)))/\ -1<=s.2/\(s.1=0->s.2= -1)/\(0<s.1->l[s.1-1]? =some s.2)) (λs=>l.length-s.1) (0,-1) a00 ?_ ?_
 ·exact⟨rfl,a8 _,rfl,by decide,λ_=>rfl,λh=>absurd h (jC 0)⟩
 ·rintro⟨k,last⟩ w1 ⟨rfl,hk,hr,Uy,h0,h1⟩;dsimp only at hk hr Uy h0 h1 ⊢;refine T.aQ (cx G G G (ad (aL ?_)));refine bE G (λc2=>?_) (λc2=>?_)
  ·refine aS (aL (aX (T.aQ (ab G G ?_))));obtain⟨x,hx⟩:∃x,l[k]? =some x:=⟨_,aq q0⟩;refine cC az I3 G G G hv bS q0 (λav6 al7 aet art=>?_);obtain rfl:x=al7:=cD (aI (aet.symm.trans ad8));refine bV (M:=M) al G G Xf (by repeat (first|exact bQ _ _|refine bA (bR Xf) ?_)) (λaru=>?_);refine aN G G (Rg.aZ G G (T.aQ (ab G G (cx G G G (ab G G ?_)))));refine aO (g:=14) G (λxd=>?_) (λxd=>?_)
   ·refine aj G G G G (aj G G G G (aU G G G (ab G G (aj G G G G (aj G G G G (aj G G G G (cp G G G (cp G G G (cp G G G (cp G G G (cp G G G ?_)))))))))));refine cp G G G (cp G G G (aj G G G G (aU G G G (ad (kD G (T.aQ (Rg.aZ G G (aJ ?_))))))));refine aK G G ⟨congrArg Value.bool (cD ?_),G⟩;rw[hr,gG hx,qH _ hx];by_cases h7:last<x
    ·have h2: ¬x<2147483648:=by omega
     simp[h2]
    ·simp[h7]
   ·refine ah G G (ab G G (ah G G (eB G G G (aB G G G (ab G G ?_)))));refine aO (g:=18) G (λal8=>?_) (λal8=>?_)
    ·refine aj G G G G (aj G G G G (aj G G G G (cp G G G (cp G G G (cp G G G (cp G G G (cp G G G (cp G G G (cp G G G (aj G G G G (aU G G G ?_)))))))))));refine ad (kD G (T.aQ (Rg.aZ G G (aJ ?_))));refine aK G G ⟨congrArg Value.bool (cD ?_),G⟩;rw[hr,gG hx,qH _ hx];by_cases h7:last<x
     ·have h2: ¬x<2147483648:=by omega
      simp[h2]
     ·simp[h7]
    ·refine ah G G (ab G G (ah G G (eR G G G (ah G G (ab G G ?_)))));refine aO (g:=21) G (λal9=>?_) (λal9=>?_)
     ·refine ah G G (ab G G (ah G G (ab G G (ah G G (ab G G (ah G G (jR G G G q0 (ah G G ?_))))))));refine cC az I3 G G G hv bS q0 (λarv aeu Zp ama=>?_);obtain rfl:last=aeu:=cD (aI (Zp.symm.trans (by rw[show((k:Int)-1).toNat=k-1 from by omega];exact h1 q0)));refine ah G G ?_;refine bV (M:=M) al G G Xf (by repeat (first|exact bQ _ _|refine bA (bR Xf) ?_)) (λamb=>?_);refine ah G G (fM G G G (ah G G (aU G G G (aB G G G (ad ?_)))));refine bE G (λc4=>?_) (λc4=>?_)
      ·refine T.aQ (Rg.aZ G G (aJ ?_));refine aK G G ⟨congrArg Value.bool (cD ?_),G⟩;rw[hr,gG hx,qH _ hx];by_cases h7:last<x
       ·have h2: ¬x<2147483648:=by omega
        simp[h2]
       ·simp[h7]
      ·refine aS (aH (bu G G G q0 (ab G G (ad ?_))));refine⟨G,(k+1,x),a00,?_,?_⟩
       ·refine⟨rfl,by simp only;omega,?_,by simp only;omega,λh=>by simp at h,λ_=>by simpa using hx⟩;rw[hr,gG hx,qH _ hx,decide_eq_true (show last<x by omega),decide_eq_true (show x<2147483648 by omega),dr,dr]
       ·simp only;omega
     ·refine aj G G G G (aj G G G G (aj G G G G (aj G G G G (aj G G G G (aj G G G G (aj G G G G (ah G G (aB G G G (aB G G G (ad (jF G ?_)))))))))));refine aS (aH (bu G G G q0 (ab G G (ad ?_))));refine⟨G,(k+1,x),a00,?_,?_⟩
      ·refine⟨rfl,by simp only;omega,?_,by simp only;omega,λh=>by simp at h,λ_=>by simpa using hx⟩;rw[hr,gG hx,qH _ hx,decide_eq_true (show last<x by omega),decide_eq_true (show x<2147483648 by omega),dr,dr]
      ·simp only;omega
  ·refine cN (T.aQ (Rg.aZ G G (aJ ?_)));refine aK G G ⟨congrArg Value.bool (cD ?_),G⟩;rw[hr,fQ q0];rfl
theorem Mf {M:aM} {w0:World} {v:Value} {l:List Po} (hM:Lt M w0) (hv:((RT.po).sl).V M w0 l v):
  Spec Tryz.prog 192 #[v] w0 (λv' w'=>v'= .bool (eP (-1) l)/\Step M w0 M w' aC):=by
 have hlen:=cU hv;refine bh (args:=[_]) (fn:=Tryz.f192) Tryz.func192 G (n:=36) Tryz.ntmps192 (T.aQ (Rg.aZ G G (T.aQ (Rg.aZ G G (aL (T.aQ ?_))))));refine ab G G ?_
 first|refine bC bJ rfl Xf rfl ?_|refine jq bJ rfl Xf rfl ?_
 refine ab G G (ad (aX ?_));refine dd (σ:=Nat×Int) (λs=>[(6,v),(7,.int .i64 l.length),(8,.int .i64 s.1),(3,.int .i64 s.2)]) (λs w=>Step M w0 M w aC/\s.1<=l.length/\eP (-1) l=eP s.2 (l.drop s.1)) (λs=>l.length-s.1) (0,-1) a00 ?_ ?_
 ·exact⟨aV,a8 _,G⟩
 ·rintro⟨k,last⟩ w1 ⟨S,hk,hr⟩;dsimp only at hk hr ⊢;have hMw:=S.lt hM;refine T.aQ (cx G G G (ad (aL ?_)));refine bE G (λc3=>?_) (λc3=>?_)
  ·refine aS (aL (aX (T.aQ ?_)));obtain⟨⟨d,ps⟩,hx⟩:∃x,l[k]? =some x:=⟨_,aq q0⟩;refine cC bJ jg G G G (hv.le S.le) bS q0 (λLQ IC Av si=>?_);obtain rfl:IC=(d,ps):=aI (Av.symm.trans ad8);refine bN (M:=M) (A:=RT.po) cw G jg Tg G G G Xf (by repeat (first|exact bQ _ _|refine bA (bR Xf) ?_)) (λH2 oB=>?_);refine pT (A:=RT.po) (M:=M) jg G G G G G Xf (by repeat (first|exact bQ _ _|refine bA (bR Xf) ?_)) a69 (λYa Yb nv pq ad9=>?_);refine ad (aL (T.aQ ?_));refine ao (M:=M) (A:=RT.po) (B:=RT.int .i64) cw G G I3 Tg (SP) G G Tg Xf (by repeat (first|exact bQ _ _|refine bA (bR Xf) ?_)) (λZi CE=>?_);refine bV al G G CE bS (λWs=>?_);refine bg (v':= .int .i64 d) G ?_;simp only at Ws;refine ab G G (fM G G G (ab G G ?_));refine aO (g:=16) G (λamc=>?_) (λamc=>?_)
   ·refine aj G G G G (aj G G G G (aj G G G G (aU G G G (ab G G (aj G G G G (aj G G G G (aj G G G G (aj G G G G (aU G G G (ab G G (aj G G G G ?_)))))))))));refine aj G G G G (aj G G G G (aj G G G G (aU G G G (ad (kD G (T.aQ (Rg.aZ G G (aJ ?_))))))));refine aK G G ⟨congrArg Value.bool (cD ?_),S.aw pq⟩;rw[hr,mE hx]
    first
    |(rw[decide_eq_false (show¬last<d by omega)];simp;done)
    |(rw[decide_eq_false (show¬d<2147483648 by omega)];simp;done)
    |(rw[show ps=[]from cB.1 q0];simp;done)
    |(simp[c5];done)
   ·refine ah G G ?_;refine ao (M:=M) (A:=RT.po) (B:=RT.int .i64) cw G G I3 Tg (SP) G G Tg Xf (by repeat (first|exact bQ _ _|refine bA (bR Xf) ?_)) (λav7 aev=>?_);refine ah G G ?_;refine bV al G G aev bS (λarw=>?_);refine bg (v':= .int .i64 d) G (ah G G (eB G G G (aB G G G (ab G G ?_))));refine aO (g:=21) G (λamd=>?_) (λamd=>?_)
    ·refine aj G G G G (aj G G G G (aj G G G G (aj G G G G (aU G G G (ab G G (aj G G G G (aj G G G G (aj G G G G (aj G G G G (aU G G G (ad ?_)))))))))));refine kD G (T.aQ (Rg.aZ G G (aJ ?_)));refine aK G G ⟨congrArg Value.bool (cD ?_),S.aw pq⟩;rw[hr,mE hx]
     first
     |(rw[decide_eq_false (show¬last<d by omega)];simp;done)
     |(rw[decide_eq_false (show¬d<2147483648 by omega)];simp;done)
     |(rw[show ps=[]from cB.1 q0];simp;done)
     |(simp[c5];done)
    ·refine ah G G ?_;refine ao (M:=M) (A:=RT.po) (B:=(RT.int .i64).sl) cw G G qc Tg (XM) G G Tg Xf (by repeat (first|exact bQ _ _|refine bA (bR Xf) ?_)) (λarx ame=>?_);refine ah G G ?_;refine bB (M:=M) az G G G G G Xf (by repeat (first|exact bQ _ _|refine bA (bR Xf) ?_)) (λary Zq=>?_);refine ah G G (bC az G Zq G (bg (v':= .int .i64 ps.length) G (ah G G (fe G G G (aB G G G (ab G G ?_))))));refine aO (g:=27) G (λWu=>?_) (λWu=>?_)
     ·refine aj G G G G (aj G G G G (aj G G G G (aj G G G G (aU G G G (ad (kD G (T.aQ (Rg.aZ G G (aJ ?_)))))))));refine aK G G ⟨congrArg Value.bool (cD ?_),S.aw pq⟩;rw[hr,mE hx]
      first
      |(rw[decide_eq_false (show¬last<d by omega)];simp;done)
      |(rw[decide_eq_false (show¬d<2147483648 by omega)];simp;done)
      |(rw[show ps=[]from cB.1 q0];simp;done)
      |(simp[c5];done)
     ·refine ah G G ?_;refine ao (M:=M) (A:=RT.po) (B:=(RT.int .i64).sl) cw G G qc Tg (XM) G G Tg Xf (by repeat (first|exact bQ _ _|refine bA (bR Xf) ?_)) (λarz amf=>?_);refine ah G G ?_;refine bB (M:=M) az G G G G G Xf (by repeat (first|exact bQ _ _|refine bA (bR Xf) ?_)) (λarA Zr=>?_);refine ah G G ?_;refine aP G G aj2 (Gn Zr) (λr5 w5 h5=>?_);obtain⟨rfl,rfl⟩:=h5;refine ah G G (fV G G (bg (v':= .bool (decide (¬o7 ps=true))) (by simp) (aB G G G (ad ?_))));refine bE G (λc5=>?_) (λc5=>?_)
      ·refine T.aQ (Rg.aZ G G (aJ ?_));refine aK G G ⟨congrArg Value.bool (cD ?_),S.aw pq⟩;rw[hr,mE hx]
       first
       |(rw[decide_eq_false (show¬last<d by omega)];simp;done)
       |(rw[decide_eq_false (show¬d<2147483648 by omega)];simp;done)
       |(rw[show ps=[]from cB.1 q0];simp;done)
       |(simp[c5];done)
      ·refine aS (aH ?_);refine ao (M:=M) (A:=RT.po) (B:=RT.int .i64) cw G G I3 Tg (SP) G G Tg Xf (by repeat (first|exact bQ _ _|refine bA (bR Xf) ?_)) (λadm Ke=>?_);refine bV al G G Ke bS (λarB=>?_);refine bg (v':= .int .i64 d) G (Rg.aZ G G (aH (bu G G G q0 (ab G G (ad ?_)))));refine⟨G,(k+1,d),a00,?_,?_⟩
       ·refine ⟨S.aw pq,by simp only;omega,?_⟩
        have fw:ps.isEmpty=false:=by cases ps with
         |nil=>simp at Wu
         |cons a t=>rfl
        rw[hr,mE hx,decide_eq_true (show last<d by omega),decide_eq_true (show d<2147483648 by omega),fw,ck.1 c5];rfl
       ·simp only;omega
  ·refine cN (T.aQ (Rg.aZ G G (aJ ?_)));refine aK G G ⟨congrArg Value.bool (cD ?_),S⟩;rw[hr,fQ q0];rfl
theorem ID {M:aM} {w0:World} {v:Value} {l:List Po} (hM:Lt M w0) (hv:((RT.po).sl).V M w0 l v):
  Spec Tryz.prog 193 #[v,.int .i64 8] w0 (λv' w'=>∃bs bn,v'= .func (.func 265) [].toArray [.pointer (some ⟨bs,0,none⟩),.pointer (some ⟨bn,0,none⟩)].toArray/\w'.heap[bs]? =some (.cells #[v] 117 (0,0))/\w'.heap[bn]? =some (.cells #[.int .i64 8] 3 (0,0))/\w0.heap.size<=bs/\w0.heap.size<=bn/\Step M w0 M w' aC):=by
 refine bh (args:=[_,_]) (fn:=Tryz.f193) Tryz.func193 G (n:=9) Tryz.ntmps193 (T.aQ ?_);refine nS M G G (λbs w1 h1 TB hS s1=>?_);rw[jl hv]at hS;refine nS (ins M bs) G G (λbn w2 h2 Hs hN s2=>?_);have hS2:=s2.aF hS;have hz1:=s1.size;refine Rg.aZ G G (aL (T.aQ (aR al G G G hN G (cx G G G (ad (T.NR G (Tg) (aS (T.aQ ?_))))))));refine iS (xs:=[]) (ys:=[.tmp 2,.tmp 3]) G G G (Rg.aZ G G (aJ ?_));exact aK G G ⟨bs,bn,G,hS2,hN,h1,by omega,(s1.aw s2).back⟩
theorem Gp {w0:World} {bs bn yl:Nat} {v:Value} {l:List Po} {M:aM} {wv:World} {J:Nat->World->Prop} {Jx:World->Prop} (hv:((RT.po).sl).V M wv l v) (jT:∀i w w',J i w->Step aC w aC w' aC->J i w') (UD:∀i w,J i w->w.heap[bs]? =some (.cells #[v] 117 (0,0))/\w.heap[bn]? =some (.cells #[.int .i64 8] 3 (0,0))) (hy:∀(i:Nat) (w:World) (u:Value),J i w->i<l.length->((RT.po).sl).V M wv ((l.drop i).take 8) u->zj Tryz.prog yl [u].toArray w (λr w'=>∃b,r= .bool b/\(b=true->J (min (i+8) l.length) w')/\(b=false->Jx w'))) (h0:J 0 w0):
  Spec Tryz.prog 265 #[.func (.yield yl) #[] #[],.pointer (some ⟨bs,0,none⟩),.pointer (some ⟨bn,0,none⟩)] w0 (λ_ w'=>J l.length w'∨Jx w'):=by
 have hlen:=cU hv;refine bh (args:=[_,_,_]) (fn:=Tryz.f265) Tryz.func265 G (n:=31) Tryz.ntmps265 (T.aQ (Rg.aZ G G (aX ?_)));refine dd (σ:=Nat) (λs=>[(0,.func (.yield yl) #[] #[]),(1,.pointer (some ⟨bs,0,none⟩)),(2,.pointer (some ⟨bn,0,none⟩)),(4,.int .i64 s)]) (λs w=>J (min s l.length) w/\s<=l.length+8) (λs=>l.length+8-s) 0 a00 ?_ ?_
 ·exact⟨by rw[Nat.zero_min];exact h0,a8 _⟩
 ·rintro k w1 ⟨hJ,hk⟩;obtain⟨wK,EL⟩:=UD _ _ hJ;refine aL (T.aQ (ab G G (aR bJ G G G wK G ?_)))
  first|refine bC bJ rfl Xf rfl ?_|refine jq bJ rfl Xf rfl ?_
  refine cx G G G (ad ?_);refine bE G (λc1=>?_) (λc1=>?_)
  ·refine aS (aL (aX (aL ?_)));apply T.draw (M:=aC) mixed [cj.eq _,cj.eq _,cj.eq _,cj.pure (λv=>((RT.po).sl).V M wv (l.drop k) v),cj.eq _,cj.eq _,cj.eq _]
   ·rfl
   ·refine aE ?_ ?_
    ·intro wD E sD;refine aR al G G G (ch sD EL) G ?_;exact a01
    refine aE ?_ ?_
    ·intro wD E sD;refine aR bJ G G G (ch sD wK) G ?_;exact a01
    refine aE ?_ ?_
    ·intro wD E sD;refine ab G G ?_;exact a01
    refine aE ?_ ?_
    ·intro wD E sD;refine au (au ?_);refine Rg.oW (A:=RT.po) (hn:=by decide) bJ jg G G G hv q0 (λu hu=>?_);rw[ar]at hu;exact ad ⟨G,G,_,G,hu,aV⟩
    refine aE ?_ ?_
    ·intro wD E sD;intro v3 uE;have amg:((RT.po).sl).V M wv (l.drop k) v3:=uE;refine bC bJ G amg G ?_;exact a01
    refine aE ?_ ?_
    ·intro wD E sD;refine au (au (Rg.min2 G G G ?_));exact a01
    refine aE ?_ ?_
    ·intro wD E sD;refine au (au (au (au ?_)));intro v3 uE;refine au (au (aN G G ?_));exact a01
    exact rI
   ·intro wD3 oy;refine au (au (au ?_));intro aeo Wr;refine au (au (au ?_));rw[show min k l.length=k from by omega]at hJ;have hJ3:=jT _ _ _ hJ oy;obtain⟨hb3,UE⟩:=UD _ _ hJ3;refine T.aQ (ab G G (aR bJ G G G hb3 G (ab G G (ab G G (ab G G (bu G G G q0 (ab G G (ab G G (bu G G G q0 ?_)))))))));refine Rg.Lo (A:=RT.po) (hn:=by decide) bJ jg rfl rfl rfl rfl rfl hv (by rw[cW];omega) (λu hu=>?_)
    have he:(l.take ((k:Int)+min 8 ((l.drop k).length:Int)).toNat).drop (k:Int).toNat=(l.drop k).take 8:=by
     rw[ar,List.drop_take,cW,show((k:Int)+min 8 ((l.length-k:Nat):Int)).toNat-k=min 8 (l.length-k)from by omega,ix,cW];omega
    rw[he]at hu;refine Rg.yield G (vs:=[u]) G G (hy k _ u hJ3 q0 hu) (λr4 w4 h4=>?_);obtain⟨b,rfl,hb5,rO⟩:=h4;refine fV G G (bg (v':= .bool (decide (¬b=true))) (by simp) (ad ?_));refine bE G (λc4=>?_) (λc4=>?_)
    ·refine aJ ?_;exact EK G (.inr (rO (by simpa using c4)))
    ·refine aS (aH (ab G G ?_));have hJ5:=hb5 (ck.1 c4);refine aR al G G G (UD _ _ hJ5).2 G (bu G G G q0 (Rg.aZ G G ?_));refine⟨G,k+8,a00,?_,?_⟩
     ·exact⟨hJ5,by omega⟩
     ·show l.length+8-(k+8)<l.length+8-k;omega
  ·refine cN ?_;rw[show min k l.length=l.length from by omega]at hJ;change yp Tryz.prog Tryz.f265 (λ_ w'=>J l.length w'∨Jx w') .normal _ [] _;exact kr G (.inl hJ)
structure nF (M:aM) (w0:World) (v:Value) (bo bx bl D bs bn:Nat) (st:Obj) (vb vk:Value) (wC last:Int) (b:List UInt8) (ks:List Bl) (M1:aM) (w:World):Prop where
 lt:Lt M1 w
 S:Step M w0 M1 w aC
 mo:M1 bo
 mx:M1 bx
 ml:M1 bl
 md:M1 D
 mr:M1 (D+1)
 o:w.heap[bo]? =some (.cells #[.pointer (some ⟨bx,0,none⟩)] 250 (0,0))
 x:w.heap[bx]? =some (.cells #[vb,vk,.int .i64 wC] 296 (0,0))
 l:w.heap[bl]? =some (.cells #[.int .i64 last] 3 (0,0))
 d:w.heap[D]? =some (.deferred (some []))
 r:w.heap[D+1]? =some st
 s:w.heap[bs]? =some (.cells #[v] 117 (0,0))
 n:w.heap[bn]? =some (.cells #[.int .i64 8] 3 (0,0))
 ne:bo≠bx/\bo≠bl/\bx≠bl/\bo<D/\bx<D/\bl<D/\bs<D/\bn<D/\bs≠bo/\bs≠bx/\bs≠bl/\bn≠bo/\bn≠bx/\bn≠bl/\w0.heap.size<=bo/\w0.heap.size<=bx/\w0.heap.size<=bl/\w0.heap.size<=D
 hb:(RT.u8.sl).V M1 w b vb
 hk:Own RT.bl 301 M1 w (D+2) vk ks
section
variable {M M1 M2:aM} {w0 w w':World} {v vb vk:Value} {bo bx bl D bs bn:Nat} {st:Obj} {wC last:Int} {b:List UInt8} {ks:List Bl}
theorem nF.step (h:nF M w0 v bo bx bl D bs bn st vb vk wC last b ks M1 w) (s:Step M1 w M2 w' aC):nF M w0 v bo bx bl D bs bn st vb vk wC last b ks M2 w':=
 ⟨s.lt h.lt,h.S.aw s,(s.mem _ (h.lt _ h.mo)).2 h.mo,(s.mem _ (h.lt _ h.mx)).2 h.mx,(s.mem _ (h.lt _ h.ml)).2 h.ml,(s.mem _ (h.lt _ h.md)).2 h.md,(s.mem _ (h.lt _ h.mr)).2 h.mr,
  s.aF h.o,s.aF h.x,s.aF h.l,s.aF h.d,s.aF h.r,s.aF h.s,s.aF h.n,h.ne,h.hb.le s.le,h.hk.bP s⟩
theorem nF.UF {n:Int} (h:nF M w0 v bo bx bl D bs bn st vb vk wC last b ks M1 w) (s:Step M1 w M1 w' (λk=>k=bl)) (hl:w'.heap[bl]? =some (.cells #[.int .i64 n] 3 (0,0))):nF M w0 v bo bx bl D bs bn st vb vk wC n b ks M1 w':=by
 obtain⟨e1,e2,e3,e4,e5,e6,e7,e8,e9,IE,Mg,KA,QA,e14,e15,e16,e17,e18⟩:=h.ne
 exact⟨s.lt h.lt,h.S.cr s (λk hk=>by subst hk;exact e17),h.mo,h.mx,h.ml,h.md,h.mr,s.bU h.o e2,s.bU h.x e3,hl,s.bU h.d q0,s.bU h.r q0,s.bU h.s Mg,s.bU h.n e14,h.ne,h.hb.le s.le,
  h.hk.step s (λk hk hh=>by have:=(h.hk.base k hk).1;omega)⟩
theorem nF.Zs {vb' Zt:Value} {aey:Int} {b':List UInt8} {XV:List Bl} (h:nF M w0 v bo bx bl D bs bn st vb vk wC last b ks M1 w) (s:Step M1 w M1 w' (λk=>k=bx)) (hx:w'.heap[bx]? =some (.cells #[vb',Zt,.int .i64 aey] 296 (0,0)))
  (hb:(RT.u8.sl).V M1 w' b' vb') (hk:Own RT.bl 301 M1 w (D+2) Zt XV):nF M w0 v bo bx bl D bs bn st vb' Zt aey last b' XV M1 w':=by
 obtain⟨e1,e2,e3,e4,e5,e6,e7,e8,e9,IE,Mg,KA,QA,e14,e15,e16,e17,e18⟩:=h.ne
 exact⟨s.lt h.lt,h.S.cr s (λk hk=>by subst hk;exact e16),h.mo,h.mx,h.ml,h.md,h.mr,s.bU h.o e1,hx,s.bU h.l (Ne.symm e3),s.bU h.d q0,s.bU h.r q0,s.bU h.s IE,s.bU h.n QA,h.ne,hb,
  hk.step s (λk qa hh=>by have:=(hk.base k qa).1;omega)⟩
theorem nF.qf {st':Obj} (h:nF M w0 v bo bx bl D bs bn st vb vk wC last b ks M1 w) (jT:w.heap[D+1]? =some st):nF M w0 v bo bx bl D bs bn st' vb vk wC last b ks M1 (w.putObj (D+1) st'):=by
 have s:Step M1 w M1 (w.putObj (D+1) st') (λk=>k=D+1):=gy h.mr;obtain⟨e1,e2,e3,e4,e5,e6,e7,e8,e9,IE,Mg,KA,QA,e14,e15,e16,e17,e18⟩:=h.ne
 exact⟨s.lt h.lt,h.S.cr s (λk hk=>by subst hk;omega),h.mo,h.mx,h.ml,h.md,h.mr,s.bU h.o q0,s.bU h.x q0,s.bU h.l q0,s.bU h.d q0,World.putObj_heap_same (ae jT),s.bU h.s q0,s.bU h.n q0,h.ne,h.hb.le s.le,
  h.hk.step s (λk qa hh=>by have:=(h.hk.base k qa).1;omega)⟩
theorem nF.other {q:Nat} (h:nF M w0 v bo bx bl D bs bn st vb vk wC last b ks M1 w) (s:Step M1 w M1 w' (λk=>k=q)) (hq:D+1<q) (hqv:∀k,vk.ownBlock=some k->k≠q):nF M w0 v bo bx bl D bs bn st vb vk wC last b ks M1 w':=by
 obtain⟨e1,e2,e3,e4,e5,e6,e7,e8,e9,IE,Mg,KA,QA,e14,e15,e16,e17,e18⟩:=h.ne
 exact⟨s.lt h.lt,h.S.cr s (λk hk=>by subst hk;omega),h.mo,h.mx,h.ml,h.md,h.mr,s.bU h.o q0,s.bU h.x q0,s.bU h.l q0,s.bU h.d q0,s.bU h.r q0,s.bU h.s q0,s.bU h.n q0,h.ne,h.hb.le s.le,
  h.hk.step s (λk qa hh=>hqv k qa hh)⟩
theorem nF.grow {Zt:Value} {XV:List Bl} (h:nF M w0 v bo bx bl D bs bn st vb vk wC last b ks M1 w) (s:Step M1 w M2 w' (λk=>vk.ownBlock=some k)) (hk:Own RT.bl 301 M2 w' (D+2) Zt XV):
  (w'.heap[bx]? =some (.cells #[vb,vk,.int .i64 wC] 296 (0,0))/\M2 bx/\Lt M2 w')/\∀{w2:World},Step M2 w' M2 w2 (λk=>k=bx)->w2.heap[bx]? =some (.cells #[vb,Zt,.int .i64 wC] 296 (0,0))->nF M w0 v bo bx bl D bs bn st vb Zt wC last b XV M2 w2:=by
 obtain⟨e1,e2,e3,e4,e5,e6,e7,e8,e9,IE,Mg,KA,QA,e14,e15,e16,e17,e18⟩:=h.ne;have hn:∀k,vk.ownBlock=some k->D+2<=k:=λk hk=>(h.hk.base k hk).1
 have ia:=λ{k:Nat} (hm:M1 k)=>(s.mem k (h.lt k hm)).2 hm
 refine ⟨⟨s.bU h.x (λhh=>by have:=hn _ hh;omega),ia h.mx,s.lt h.lt⟩,λ{w2} s2 hx=> ?_⟩;have S':=h.S.cr s (λk hk=>by have:=hn k hk;omega)
 exact⟨s2.lt (s.lt h.lt),S'.cr s2 (λk hk=>by subst hk;exact e16),ia h.mo,ia h.mx,ia h.ml,ia h.md,ia h.mr,s2.bU (s.bU h.o (λhh=>by have:=hn _ hh;omega)) e1,hx,s2.bU (s.bU h.l (λhh=>by have:=hn _ hh;omega)) (Ne.symm e3),
  s2.bU (s.bU h.d (λhh=>by have:=hn _ hh;omega)) q0,s2.bU (s.bU h.r (λhh=>by have:=hn _ hh;omega)) q0,s2.bU (s.bU h.s (λhh=>by have:=hn _ hh;omega)) IE,s2.bU (s.bU h.n (λhh=>by have:=hn _ hh;omega)) QA,h.ne,(h.hb.le s.le).le s2.le,
  hk.step s2 (λk qa hh=>by have:=(hk.base k qa).1;omega)⟩
end
def QB (M:aM) (w0:World) (l:List Po) (v:Value) (bo bx bl D bs bn:Nat) (st:Obj) (i:Nat) (w:World):Prop:=
 ∃(M1:aM) (vb vk:Value),nF M w0 v bo bx bl D bs bn st vb vk (jx (l.take i)) (cV (-1) (l.take i)) (eJ (-1) (l.take i)) (qb l ((i+7)/8)) M1 w/\(i%8=0\/i=l.length)/\i<=l.length
theorem Zu {M:aM} {w0 w2 w3 w5 w6 w7:World} {v:Value} {l:List Po} {bo bx bl bs bn:Nat} {st:Obj} (S6:Step M w0 (ins (ins (ins M bx) bo) bl) w6 aC) (s7:Step (ins (ins (ins M bx) bo) bl) w6 (ins (ins (ins M bx) bo) bl) w7 aC) (hM:Lt M w0)
  (e1:bo<w6.heap.size) (e2:bx<w6.heap.size) (e3:bl<w6.heap.size) (n1:bo≠bx) (n2:bo≠bl) (n3:bx≠bl)
  (hO:w6.heap[bo]? =some (.cells #[.pointer (some ⟨bx,0,none⟩)] 250 (0,0))) (hX:w6.heap[bx]? =some (.cells #[.slice none 0 0,.slice none 0 0,.int .i64 0] 296 (0,0))) (hL:w6.heap[bl]? =some (.cells #[.int .i64 (-1)] 3 (0,0)))
  (hS:w7.heap[bs]? =some (.cells #[v] 117 (0,0))) (hN:w7.heap[bn]? =some (.cells #[.int .i64 8] 3 (0,0))) (hbs:w6.heap.size<=bs) (VL:w6.heap.size<=bn)
  (g1:w0.heap.size<=bo) (g2:w0.heap.size<=bx) (g3:w0.heap.size<=bl):
  QB M w0 l v bo bx bl w7.heap.size bs bn st 0 ((w7.alloc (.deferred (some []))).alloc st):=by
 have sA:Step (ins (ins (ins M bx) bo) bl) w7 (ins (ins (ins (ins M bx) bo) bl) w7.heap.size) (w7.alloc (.deferred (some []))) aC:=(ei _ w7 _).own (bz _) (by simp);have sB:Step (ins (ins (ins (ins M bx) bo) bl) w7.heap.size) (w7.alloc (.deferred (some []))) (ins (ins (ins (ins (ins M bx) bo) bl) w7.heap.size) (w7.heap.size+1)) ((w7.alloc (.deferred (some []))).alloc st) aC:=(ei _ _ _).own (by simp) (by simp);have z7:=s7.size;have hs7:=ae hS;have hn7:=ae hN;have S:=((S6.aw s7).aw sA).aw sB;have hD:(w7.alloc (.deferred (some []))).heap[w7.heap.size]? =some (.deferred (some [])):=dE w7 _;have hR:((w7.alloc (.deferred (some []))).alloc st).heap[w7.heap.size+1]? =some st:=by have:=dE (w7.alloc (.deferred (some []))) st;rwa [World.size_alloc]at this
 have z0:=S6.size;refine⟨_,.slice none 0 0,.slice none 0 0,⟨S.lt hM,S,?_,?_,?_,?_,.inl rfl,sB.aF (sA.aF (s7.aF hO)),sB.aF (sA.aF (s7.aF hX)),sB.aF (sA.aF (s7.aF hL)),sB.aF hD,hR,sB.aF (sA.aF hS),sB.aF (sA.aF hN),by omega,gZ,eL _ _ _ _ _⟩,.inl rfl,a8 _⟩
 ·exact .inr (.inr (.inr (.inl G)))
 ·exact .inr (.inr (.inr (.inr (.inl G))))
 ·exact .inr (.inr (.inl G))
 ·exact .inr (.inl G)
set_option maxHeartbeats 4000000 in
theorem xe {M:aM} {w0:World} {v:Value} {l:List Po} (hM:Lt M w0) (hv:((RT.po).sl).V M w0 l v) (sO:∀p∈l,p.2.length<=1099511627776) (tN:(eJ (-1) l).length<=35184372088832) (N4:l.length<=1099511627776) (av9:jx l<=4611686018427387904):
  Spec Tryz.prog 155 #[v] w0 (λv' w'=>Step M w0 M w' aC/\(eP (-1) l=true->∃p,v'= .tuple #[p,.int .i64 0]/\cO RT.li M w' p (lr l))/\(eP (-1) l=false->v'= .tuple #[.pointer none,.int .i64 1])):=by
 have hlen:=cU hv;refine ug (args:=[_]) (fn:=Tryz.f155) Tryz.func155 G (n:=85) Tryz.ntmps155 (T.aQ (aN G G (Rg.aZ G G (aL (T.aQ (ab G G ?_))))));refine aP G G ajU (Mf hM hv) (λr w1 h1=>?_);obtain⟨rfl,s1⟩:=h1;refine fV G G (bg (v':= .bool (decide (¬eP (-1) l=true))) (by simp) (ad ?_));refine bE G (λc1=>?_) (λc1=>?_)
 ·refine T.aQ (aN G G (Rg.aZ G G (aJ ?_)));exact TA G G G ⟨s1,λh=>absurd h c1,λ_=>G⟩
 ·have uO:=ck.1 c1;refine aS (T.aQ (dw (places:=[(0,1),(1,1),(2,1)]) eH ajB ajD G G (out:=[.slice none 0 0,.slice none 0 0,.int .i64 0]) G ?_));refine nS M G G (λbx w2 UD awa hX s2=>?_);change w2.heap[bx]? =some (.cells #[.slice none 0 0,.slice none 0 0,.int .i64 0] 296 (0,0))at hX;refine ew (ins M bx) ti G (λbo w3 hbo awb hO s3=>?_);refine cv (M:=ins (ins M bx) bo) ti G G hO G G (.inl G) (λw4 hO4 s4=>?_);refine ad (T.aQ ?_);refine ew (ins (ins M bx) bo) I3 G (λbl w5 awd arG hL s5=>?_);refine cv (M:=ins (ins (ins M bx) bo) bl) I3 G G hL G G (.inl G) (λw6 hL6 s6=>?_);have z1:=s1.size;have z2:=s2.size;have z3:=s3.size;have z4:=s4.size;have z5:=s5.size;have z6:=s6.size;have S6:Step M w0 (ins (ins (ins M bx) bo) bl) w6 aC:=((((s1.aw s2).aw s3).cr s4 (λk hk=>by subst hk;omega)).aw s5).cr s6 (λk hk=>by subst hk;omega);have hO6:=s6.bU (s5.aF hO4) (show bo≠bl by omega);have IF:=s6.bU (s5.aF (s4.bU (s3.aF hX) (show bx≠bo by omega))) (show bx≠bl by omega);refine ad (aL (T.aQ (ab G G ?_)));refine aP G G ajV (ID (M:=ins (ins (ins M bx) bo) bl) (S6.lt hM) (hv.le S6.le)) (λr w7 h7=>?_);obtain⟨bs,bn,rfl,hS7,hN7,hbs,VL,s7⟩:=h7;have z7:=s7.size;have awg:=ae hS7;have awh:=ae hN7;refine ad (aX ?_);refine T.range (gf:=265) (lb:=[.pointer (some ⟨bs,0,none⟩),.pointer (some ⟨bn,0,none⟩)].toArray) G aj3 (λrec uc=>?_);obtain⟨D,hD⟩:∃D,D=w7.heap.size:=⟨_,rfl⟩;rw[<-hD]at uc ⊢
  have h0:QB M w0 l v bo bx bl D bs bn (.loop (rec .ready none)) 0 ((w7.alloc (.deferred (some []))).alloc (.loop (rec .ready none))):=by
   rw[hD]at uc ⊢;exact Zu (w2:=w7) (w3:=w7) (w5:=w7) S6 s7 hM q0 q0 q0 q0 q0 q0 hO6 IF hL6 hS7 hN7 hbs VL q0 q0 q0
  refine Spec.mono (Gp (M:=M) (wv:=w0) (J:=QB M w0 l v bo bx bl D bs bn (.loop (rec .ready none))) (Jx:=λ_=>False) hv (λi w w' ⟨M1,vb,vk,h,h2⟩ s=>⟨M1,vb,vk,h.step (s.any M1),h2⟩) (λi w ⟨M1,vb,vk,h,h2⟩=>⟨h.s,h.n⟩) (λi wr u hJ hi hu=>?_) h0) (λ_ w3 h3=>?_)
  ·obtain⟨M1,vb,vk,h,hi8,rL⟩:=hJ;refine ru (ps:=[17]) (vs:=[u]) uc h.r G Tg (aH (Rg.aZ G G (⟨G,h.r,?_⟩)));have h1:=h.qf (st':= .loop (rec .busy none)) h.r;generalize wr.putObj (D+1) _=wB at h1 ⊢;have hO:=h1.o;have hX:=h1.x;have hL:=h1.l;have hB:=h1.hb;have eZ:=h1.lt;have sV:((l.drop i).take 8).length<=8:=by rw[a7];omega
   have awi:((l.drop i).take 8).length=min 8 (l.length-i):=by rw[a7,cW]
   obtain⟨q1,q2,q3,q4,q5,q6,q7,q8,q9,q10,q11,q12,q13,q14,q15,q16,q17,q18⟩:=h1.ne;refine aX (aL ?_);apply T.JW (M:=M1) (n:=85) _ mixed [] [cj.eq _,cj.eq _,cj.eq _,cj.eq _,cj.eq _,cj.eq _,cj.eq _,cj.eq _,cj.eq _,cj.mk' (λp w'=>∃bq,p= .pointer (some ⟨bq,0,none⟩)/\wB.heap.size<=bq/\w'.heap[bq]? =some (.cells #[.int .i64 0,.int .i64 0,.int .i64 0,.int .i64 0] 301 (0,0))) (fun⟨bq,h1,h2,h3⟩ s=>⟨bq,h1,h2,s.aF h3⟩)]
   ·rfl
   ·rfl
   ·rfl
   ·rfl
   ·exact a88
   ·exact oT
   ·refine ay ?_ ?_
    ·intro wD E sD;refine aR dR G G G (ch sD Xf) G ?_;exact a01
    refine ay ?_ ?_
    ·intro wD E sD;refine au (bm G ⟨_,G⟩ G ?_);exact a01
    refine ay ?_ ?_
    ·intro wD E sD;refine au (aY eH G G Fj Tg G G ?_);exact a01
    refine ay ?_ ?_
    ·intro wD E sD;refine au (aR bZ G G G (ch sD Xf) G ?_);exact a01
    refine ay ?_ ?_
    ·intro wD E sD;refine au ?_
     first|refine bC bZ rfl Xf rfl ?_|refine jq bZ rfl Xf rfl ?_
     exact a01
    refine ay ?_ ?_
    ·intro wD E sD;refine aR al G G G (ch sD Xf) G ?_;exact a01
    refine ay ?_ ?_
    ·intro wD E sD;refine ab G G ?_;exact a01
    refine ay ?_ ?_
    ·intro wD E sD;refine au ?_
     first|refine bC bJ rfl Xf rfl ?_|refine jq bJ rfl Xf rfl ?_
     exact a01
    refine ay ?_ ?_
    ·intro wD E sD;refine au (au (au (dw (places:=[(0,1),(1,1),(2,1),(3,1)]) l9 BI ajE rfl ⟨_,_,rfl,rfl,_,_,rfl,rfl,_,_,rfl,rfl,rfl⟩ (out:=[.int .i64 (eJ (-1) (l.take i)).length,.int .i64 (cV (-1) (l.take i)),.int .i64 0,.int .i64 ((l.drop i).take 8).length]) ⟨0,[_],rfl,rfl,by simp[Value.cells],1,[_],rfl,rfl,by simp[Value.cells],3,[_],rfl,rfl,by simp[Value.cells],rfl⟩ ?_)));exact a01
    refine ay ?_ ?_
    ·intro wD E sD;refine ew M1 BI G (λbq wq e1 e2 e3 s=>?_);exact ad ⟨G,G,_,G,⟨bq,G,dz sD.size e1,e3⟩,s.back⟩
    exact jS
   ·intro wD7 Wv;refine au (au (au (au (au (au (au (au (au ?_))))))));intro aws aez;obtain⟨bq,rfl,XD,hq2⟩:=aez;have VS:=ae hq2;have sQ:Step M1 wB (ins M1 bq) wD7 aC:=Wv.own XD VS;refine cY (M:=ins M1 bq) (vs:=[.int .i64 (eJ (-1) (l.take i)).length,.int .i64 (cV (-1) (l.take i)),.int .i64 0,.int .i64 ((l.drop i).take 8).length]) BI G G (by intro x hx;simp at hx;rcases hx with rfl|rfl|rfl|rfl<;>rfl) rfl rfl hq2 (.inl rfl) (λwQ hQ sQ2=>?_);refine ad ⟨G,?_⟩;have h2:=h1.step (sQ.cr sQ2 (λk hk=>by subst hk;exact XD));have hqv:∀k,vk.ownBlock=some k->k≠bq:=λk hk=>by have:=(h1.hk.base k hk).2;omega
    have hDq:D+1<bq:=by have:=ae h1.r;omega
    have h3:nF M w0 v bo bx bl D bs bn (.loop (rec .busy none)) vb vk (jx (l.take (i+0))) (cV (-1) (l.take (i+0))) (eJ (-1) (l.take (i+0))) (qb l ((i+7)/8)) (ins M1 bq) wQ:=h2;obtain⟨M2,J8⟩:∃M2,M2=ins M1 bq:=⟨_,rfl⟩;rw[<-J8]at h3;refine aL (T.aQ (ab G G ?_))
    first|refine bC bJ rfl Xf rfl ?_|refine jq bJ rfl Xf rfl ?_
    refine ab G G (ad (aX ?_));refine dd (σ:=Nat×Value) (λs=>[(4,.pointer (some ⟨bo,0,none⟩)),(5,.pointer (some ⟨bl,0,none⟩)),(6,u),(7,.pointer (some ⟨bq,0,none⟩)),(27,u),(28,.int .i64 ((l.drop i).take 8).length),(29,.int .i64 s.1)]) (λs w=>s.1<=((l.drop i).take 8).length/\w.heap[bq]? =some (.cells #[.int .i64 (eJ (-1) (l.take i)).length,.int .i64 (cV (-1) (l.take i)),.int .i64 0,.int .i64 ((l.drop i).take 8).length] 301 (0,0))/\nF M w0 v bo bx bl D bs bn (.loop (rec .busy none)) s.2 vk (jx (l.take (i+s.1))) (cV (-1) (l.take (i+s.1))) (eJ (-1) (l.take (i+s.1))) (qb l ((i+7)/8)) M2 w) (λs=>((l.drop i).take 8).length-s.1) (0,vb) a94 ?_ ?_
    ·exact⟨a8 _,hQ,h3⟩
    ·rintro⟨j,vb⟩ wj ⟨hj,hQ,h4⟩;dsimp only at hj hQ h4 ⊢;have eZ:=h4.lt;refine T.aQ (cx G G G (ad (aL ?_)));refine bE G (λc9=>?_) (λc9=>?_)
     ·refine aS (aL (aX (T.aQ ?_)));obtain⟨⟨d,ps⟩,hx⟩:∃x,l[i+j]? =some x:=⟨_,aq q0⟩;obtain⟨f1,f2,f3,f4,f5,f6⟩:=qF uO hx;obtain⟨f7,f8⟩:=o8.1 f4;have fps:=sO _ (av hx);have fb:=nE l (i+j);have ft:=E4 l (i+j);have ft2:=E4 l (i+j+1);rw[zq hx]at ft2;have ftk:=zp (-1) hx;have ftl:=nE l (i+j+1);simp only at fps;refine cC bJ jg G G G (hu.le h4.S.le) bS q0 (λO9 Gq Aw zY=>?_);obtain rfl:(d,ps)=Gq:=cD (aI (Aw.symm.trans (by rw[ar,dm,if_pos q0,iB];exact hx)));refine bN (M:=M2) (A:=RT.po) cw G jg Tg G G G Xf (by repeat (first|exact bQ _ _|refine bA (bR Xf) ?_)) (λadi Pb=>?_);refine pT (A:=RT.po) (M:=M2) jg G G G G G Xf (by repeat (first|exact bQ _ _|refine bA (bR Xf) ?_)) a69 (λarM Ww Zv uQ arN=>?_);refine ad (aL ?_);have h5:=h4.step uQ;have hO:=h5.o;have hX:=h5.x;have hL:=h5.l;have hB:=h5.hb;have eZ:=h5.lt;have hp0:=Zv;apply T.JW (M:=M2) (n:=85) _ mixed [] [cj.eq _,cj.eq _,cj.eq _,cj.eq _,cj.eq _,cj.ptr (RT.int .i64) d,cj.eq (.int .i64 d),cj.eq _,cj.eq _,cj.eq (.int .i64 (((d-cV (-1) (l.take (i+j))-1).toNat:Nat):Int)),cj.V (RT.u8.sl) (eJ (-1) (l.take (i+j))++put (d-cV (-1) (l.take (i+j))-1).toNat),cj.eq _,cj.eq _]
      ·rfl
      ·rfl
      ·rfl
      ·rfl
      ·exact a88
      ·exact oT
      ·refine ay ?_ ?_
       ·intro wD E sD;refine aR dR G G G (ch sD Xf) G ?_;exact a01
       refine ay ?_ ?_
       ·intro wD E sD;refine aR dR G G G (ch sD Xf) G ?_;exact a01
       refine ay ?_ ?_
       ·intro wD E sD;refine au (bm G ⟨_,G⟩ G ?_);exact a01
       refine ay ?_ ?_
       ·intro wD E sD;refine au (aY eH G G Fj Tg G G ?_);exact a01
       refine ay ?_ ?_
       ·intro wD E sD;refine au (aR bZ G G G (ch sD Xf) G ?_);exact a01
       refine ay ?_ ?_
       ·intro wD E sD;refine ao (M:=M2) (A:=RT.po) (B:=RT.int .i64) cw G G I3 Tg (SP) G G Tg Xf (by repeat (first|exact bQ _ _|refine bA (bR Xf) ?_)) (λaeA QC=>?_);exact ad ⟨G,G,_,G,by assumption,aV⟩
       refine ay ?_ ?_
       ·intro wD E sD;intro v5 pA;refine bV (M:=M2) al G G Xf (by repeat (first|exact bQ _ _|refine bA (bR Xf) ?_)) (λamj=>?_);exact a01
       refine ay ?_ ?_
       ·intro wD E sD;refine aR al G G G (ch sD Xf) G ?_;exact a01
       refine ay ?_ ?_
       ·intro wD E sD;refine au (au (jR G G G q0 ?_));exact a01
       refine ay ?_ ?_
       ·intro wD E sD;refine au (jR G G G q0 (bg (v':= .int .i64 (((d-cV (-1) (l.take (i+j))-1).toNat:Nat):Int)) (by congr 1;omega) ?_));exact a01
       refine ay ?_ ?_
       ·intro wD E sD;refine au (au ?_);refine aP G G X5 (Qm (M:=M2) (sD.lt eZ) (hB.le sD.le) q0 q0) (λrP wP hP=>?_);exact ad ⟨G,G,_,G,hP.2,hP.1⟩
       refine ay ?_ ?_
       ·intro wD E sD;refine au (au (au (au (au (au ?_)))));intro v5 pA;refine au (au (au (au ?_)));intro v10 pJ;refine bm G ⟨_,G⟩ G ?_;exact a01
       refine ay ?_ ?_
       ·intro wD E sD;refine au (au (au (au (au (au ?_)))));intro v5 pA;refine au (au (au (au ?_)));intro v10 pJ;refine aY eH G G Fj Tg G G ?_;exact a01
       exact jS
      ·intro Ge ej;refine au (au (au (au (au ?_))));intro arO amk;refine au (au (au (au ?_)));intro IG pK;refine au (au ?_);have h6:=h5.step ej;have hp6:=hp0.le Tg ej.le;refine cv (M:=M2) Fj G G h6.x G (jL pK G G) h6.mx (λw11 D3 yB=>?_);refine ad ⟨G,?_⟩;have h7:=h6.Zs yB D3 (RT.V.le yB.le pK) h6.hk;have hp7:=hp6.le Tg yB.le;refine aL ?_;have hO:=h7.o;have hX:=h7.x;have hB:=h7.hb;have eZ:=h7.lt;have fbl:(eJ (-1) (l.take (i+j))++put (d-cV (-1) (l.take (i+j))-1).toNat).length<=35184372088832:=by rw[ftk]at ftl;simp only[bM]at ftl ⊢;omega
       apply T.VQ (M:=M2) mixed [(13,λk=>k=bx)] [cj.eq _,cj.eq _,cj.eq _,cj.eq _,cj.eq _,cj.ptr ((RT.int .i64).sl) ps,cj.V ((RT.int .i64).sl) ps,⟨λt w=>∃x,t= .tuple #[x,.int .i64 0]/\(RT.u8.sl).V M2 w (eJ (-1) (l.take (i+j))++put (d-cV (-1) (l.take (i+j))-1).toNat++fc ps) x,K9,fun⟨x,h1,h2⟩ s _=>⟨x,h1,h2.le s.le⟩⟩,⟨λt w=>∃x,t= .tuple #[x,.int .i64 0]/\(RT.u8.sl).V M2 w (eJ (-1) (l.take (i+j))++put (d-cV (-1) (l.take (i+j))-1).toNat++fc ps) x,K9,fun⟨x,h1,h2⟩ s _=>⟨x,h1,h2.le s.le⟩⟩,cj.V (RT.u8.sl) (eJ (-1) (l.take (i+j))++put (d-cV (-1) (l.take (i+j))-1).toNat++fc ps),cj.eq (.int .i64 0),cj.eq _,cj.eq _,⟨λ_ w=>∃x,w.heap[bx]? =some (.cells #[x,vk,.int .i64 (jx (l.take (i+j)))] 296 (0,0))/\(RT.u8.sl).V M2 w (eJ (-1) (l.take (i+j))++put (d-cV (-1) (l.take (i+j))-1).toNat++fc ps) x,λk=>k≠bx,fun⟨x,h1,h2⟩ s hN=>⟨x,s.bU h1 (λhb=>hN _ hb rfl),h2.le s.le⟩⟩]
       ·rfl
       ·intro p hp b hb;simp only[dn]at hp;subst hp
        cases hb;exact h7.mx
       ·exact⟨λ_ _ _ _=>trivial,⟨λ_ _ _ _=>trivial,⟨λ_ _ _ _=>trivial,⟨λ_ _ _ _=>trivial,⟨λ_ _ _ _=>trivial,⟨λ_ _ _ _=>trivial,⟨λ_ _ _ _=>trivial,⟨λ_ _ _ _=>trivial,⟨λ_ _ _ _=>trivial,⟨λ_ _ _ _=>trivial,⟨λ_ _ _ _=>trivial,⟨λ_ _ _ _=>trivial,⟨λ_ _ _ _=>trivial,⟨λp hp=>by simp at hp,trivial⟩⟩⟩⟩⟩⟩⟩⟩⟩⟩⟩⟩⟩⟩
       ·refine aE ?_ ?_
        ·intro wD E sD;replace sD:Step M2 _ M2 wD aC:=sD;refine aR dR G G G (ch sD Xf) G ?_;exact a01
        refine aE ?_ ?_
        ·intro wD E sD;replace sD:Step M2 _ M2 wD aC:=sD;refine aR dR G G G (ch sD Xf) G ?_;exact a01
        refine aE ?_ ?_
        ·intro wD E sD;replace sD:Step M2 _ M2 wD aC:=sD;refine au (bm G ⟨_,G⟩ G ?_);exact a01
        refine aE ?_ ?_
        ·intro wD E sD;replace sD:Step M2 _ M2 wD aC:=sD;refine au (aY eH G G Fj Tg G G ?_);exact a01
        refine aE ?_ ?_
        ·intro wD E sD;replace sD:Step M2 _ M2 wD aC:=sD;refine au (aR bZ G G G (ch sD Xf) G ?_);exact a01
        refine aE ?_ ?_
        ·intro wD E sD;replace sD:Step M2 _ M2 wD aC:=sD;refine ao (M:=M2) (A:=RT.po) (B:=(RT.int .i64).sl) cw G G qc Tg XM G G Tg hp7 sD.le (λuf uR=>?_);exact a83
        refine aE ?_ ?_
        ·intro wD E sD;replace sD:Step M2 _ M2 wD aC:=sD;intro v5 pA;refine bB az G G G G G (show cO ((RT.int .i64).sl) M2 wD v5 ps from pA) bS (λuf uR=>?_);exact a83
        refine aE ?_ ?_
        ·intro wD E sD;replace sD:Step M2 _ M2 wD aC:=sD;refine au ?_;intro v6 oC;refine aP G G ajW (Ar (M:=M2) (sD.lt eZ) (hB.le sD.le) (show((RT.int .i64).sl).V M2 wD ps v6 from oC) q0) (λrP wP hP=>?_);obtain⟨xP,sP,hP1,hP2⟩:=hP;rw[if_pos f7]at hP1 hP2;exact ad ⟨G,G,_,G,⟨xP,hP1,hP2⟩,sP⟩
        refine aE ?_ ?_
        ·intro wD E sD;replace sD:Step M2 _ M2 wD aC:=sD;intro v7 FP;refine ab G G ?_;exact ad ⟨G,G,_,G,FP,aV⟩
        refine aE ?_ ?_
        ·intro wD E sD;replace sD:Step M2 _ M2 wD aC:=sD;intro v8 EH;obtain⟨xP,rfl,hP2⟩:=EH;refine cI G G G ?_;exact ad ⟨G,G,_,G,hP2,aV⟩
        refine aE ?_ ?_
        ·intro wD E sD;replace sD:Step M2 _ M2 wD (λk=>k=bx):=sD;intro v8 EH;obtain⟨xP,rfl,hP2⟩:=EH;refine cI G G G ?_;exact a01
        refine aE ?_ ?_
        ·intro wD E sD;replace sD:Step M2 _ M2 wD (λk=>k=bx):=sD;refine au (au (au (au (au (au ?_)))));intro v5 pA;intro v6 oC;intro v7 FP;intro v8 EH;intro v9 LS;refine bm G ⟨_,G⟩ G ?_;exact a01
        refine aE ?_ ?_
        ·intro wD E sD;replace sD:Step M2 _ M2 wD aC:=sD;refine au (au (au (au (au (au ?_)))));intro v5 pA;intro v6 oC;intro v7 FP;intro v8 EH;intro v9 LS;refine aY eH G G Fj Tg G G ?_;exact a01
        refine aE ?_ ?_
        ·intro wD E sD;replace sD:Step M2 _ M2 wD aC:=sD;refine au ?_;intro v9 LS;intro v7 FP;refine au (au (au (au (au ?_))));intro v5 pA;intro v6 oC;intro v7 FP;intro v8 EH;intro v9 LS;refine cv (M:=M2) Fj G G (ch sD hX) G (jL (A:=RT.u8.sl) LS G G) h7.mx (λwS hXS sS=>?_);exact ad ⟨G,G,undef,G,⟨_,hXS,RT.V.le (A:=RT.u8.sl) sS.le LS⟩,sS⟩
        exact rI
       ·intro IH rQ;replace rQ:Step M2 _ M2 IH (λk=>k=bx):=rQ;refine au (au (au (au (au ?_))));intro arQ aml;intro arR amm;intro arS amn;intro arT amo;intro arU amp;refine au (au (au ?_));intro amq UG;obtain⟨v12,II,amr⟩:=UG;have h8:=h7.Zs rQ II amr h7.hk;have hp8:=hp7.le Tg rQ.le;refine aL ?_;have hO:=h8.o;have hX:=h8.x;apply T.JW (M:=M2) (n:=85) _ mixed [] [cj.eq _,cj.eq _,cj.eq _,cj.eq _,cj.ptr ((RT.int .i64).sl) ps,cj.V ((RT.int .i64).sl) ps,cj.eq (.int .i64 ps.length),cj.eq _,cj.eq _,cj.eq _]
        ·rfl
        ·rfl
        ·rfl
        ·rfl
        ·exact a88
        ·exact oT
        ·refine ay ?_ ?_
         ·intro wD E sD;refine aR dR G G G (ch sD Xf) G ?_;exact a01
         refine ay ?_ ?_
         ·intro wD E sD;refine au (bm G ⟨_,G⟩ G ?_);exact a01
         refine ay ?_ ?_
         ·intro wD E sD;refine au (aY eH G G I3 Tg G G ?_);exact a01
         refine ay ?_ ?_
         ·intro wD E sD;refine au (aR al G G G (ch sD Xf) G ?_);exact a01
         refine ay ?_ ?_
         ·intro wD E sD;refine ao (M:=M2) (A:=RT.po) (B:=(RT.int .i64).sl) cw G G qc Tg XM G G Tg hp8 sD.le (λuf uR=>?_);exact a83
         refine ay ?_ ?_
         ·intro wD E sD;intro v4 qu;refine bB az G G G G G (show cO ((RT.int .i64).sl) M2 wD v4 ps from qu) bS (λuf uR=>?_);exact a83
         refine ay ?_ ?_
         ·intro wD E sD;intro v5 pA;refine bC az G (show((RT.int .i64).sl).V M2 wD ps v5 from pA) G ?_;exact a01
         refine ay ?_ ?_
         ·intro wD E sD;refine au (au (bu G G G q0 ?_));exact a01
         refine ay ?_ ?_
         ·intro wD E sD;refine au (au (au (au (au ?_))));intro v4 qu;intro v5 pA;refine au (au (bm G ⟨_,G⟩ G ?_));exact a01
         refine ay ?_ ?_
         ·intro wD E sD;refine au (au (au (au (au ?_))));intro v4 qu;intro v5 pA;refine au (au (aY eH G G I3 Tg G G ?_));exact a01
         exact jS
        ·intro Pc jh;refine au (au (au (au ?_)));intro arW ams;intro Kf wR;refine au (au (au (au ?_)));have h9:=h8.step jh;refine cv (M:=M2) I3 G G h9.x G G h9.mx (λWp QD uM=>?_);refine ad ⟨G,?_⟩;have L8:=h9.Zs uM QD (h9.hb.le uM.le) h9.hk;have amt:=(hp8.le Tg jh.le).le Tg uM.le;refine aH ?_;refine ao (A:=RT.po) (B:=RT.int .i64) cw G G I3 Tg SP G G Tg amt bS (λarX Zw=>?_);refine bV al G G Zw bS (λ_=>?_);refine bg (v':= .int .i64 d) G ?_;refine cv (M:=M2) I3 G G L8.l G G L8.ml (λNy amu jD=>?_);have h11:=L8.UF jD amu;refine ad (aH (bu G G G q0 (ab G G (ad ?_))));refine⟨G,(j+1,v12),a94,?_,?_⟩
         ·refine⟨by simp only;omega,?_,?_⟩
          ·exact jD.bU (uM.bU (jh.aF (rQ.bU (yB.bU (ej.aF (uQ.aF hQ)) q0) q0)) q0) q0
          ·simp only;rw[show i+(j+1)=i+j+1 from by omega,zq hx,f5,ftk];exact h11
         ·simp only;omega
     ·refine cN (T.aQ ?_);obtain rfl:j=((l.drop i).take 8).length:=by omega
      have hbq:M2 bq:=by rw[J8];exact .inl G
      refine aR al G G G h4.l G (aY (o':=2) l9 G G I3 Tg G G ?_);refine cv (M:=M2) I3 G G hQ G G hbq (λWx aeD IK=>?_);have h16:=h4.other IK hDq hqv;change Wx.heap[bq]? =some (.cells [.int .i64 (eJ (-1) (l.take i)).length,.int .i64 (cV (-1) (l.take i)),.int .i64 (cV (-1) (l.take (i+((l.drop i).take 8).length))),.int .i64 ((l.drop i).take 8).length].toArray 301 (0,0))at aeD;refine ad ?_;have hO:=h16.o;have hX:=h16.x;have UH:=h16.hk;have iP:∀k,vk.ownBlock=some k->k≠bo:=λk hk=>by have:=(UH.base k hk).1;omega
      have awz:=ae h16.r;have g1:=kM l (-1) uO q0 i;have g2:=kM l (-1) uO q0 (i+((l.drop i).take 8).length);have g3:=nE l i;apply T.JW (M:=M2) (n:=85) _ mixed [(7,λk=>vk.ownBlock=some k)] [cj.eq _,cj.eq _,cj.eq _,cj.eq _,cj.eq _,cj.eq (.agg [.int .i64 (eJ (-1) (l.take i)).length,.int .i64 (cV (-1) (l.take i)),.int .i64 (cV (-1) (l.take (i+((l.drop i).take 8).length))),.int .i64 ((l.drop i).take 8).length].toArray),cj.V ((RT.bl).sl) [(((eJ (-1) (l.take i)).length:Int),cV (-1) (l.take i),cV (-1) (l.take (i+((l.drop i).take 8).length)),(((l.drop i).take 8).length:Int))],⟨λt w=>∃M3,Own RT.bl 301 M3 w (D+2) t (qb l ((i+7)/8)++[(((eJ (-1) (l.take i)).length:Int),cV (-1) (l.take i),cV (-1) (l.take (i+((l.drop i).take 8).length)),(((l.drop i).take 8).length:Int))])/\Step M2 Wx M3 w (λk=>vk.ownBlock=some k),aC,fun⟨M3,h1,h2⟩ s hN=>⟨M3,h1.bP ((s.eI hN a30).any M3),h2.aw ((s.eI hN a30).any M3)⟩⟩,cj.eq _,cj.eq _]
      ·rfl
      ·rfl
      ·rfl
      ·rfl
      ·intro p hp b hb;simp only[dn]at hp;subst hp;exact UH.mut_ b hb
      ·exact⟨λ_ _ _ _=>trivial,⟨λ_ _ _ _=>trivial,⟨λ_ _ _ _=>trivial,⟨λ_ _ _ _=>trivial,⟨λ_ _ _ _=>trivial,⟨λ_ _ _ _=>trivial,⟨λ_ _ _ _=>trivial,⟨λp hp=>by simp at hp,⟨λ_ _ _ _=>trivial,⟨λ_ _ _ _=>trivial,trivial⟩⟩⟩⟩⟩⟩⟩⟩⟩⟩
      ·refine ay ?_ ?_
       ·intro wD E sD;replace sD:Step M2 _ M2 wD (λk=>vk.ownBlock=some k):=sD;refine aR dR G G G (sD.bU hO (λhb=>iP _ hb rfl)) G ?_;exact a01
       refine ay ?_ ?_
       ·intro wD E sD;replace sD:Step M2 _ M2 wD (λk=>vk.ownBlock=some k):=sD;refine aR dR G G G (sD.bU hO (λhb=>iP _ hb rfl)) G ?_;exact a01
       refine ay ?_ ?_
       ·intro wD E sD;replace sD:Step M2 _ M2 wD (λk=>vk.ownBlock=some k):=sD;refine au (bm G ⟨_,G⟩ G ?_);exact a01
       refine ay ?_ ?_
       ·intro wD E sD;replace sD:Step M2 _ M2 wD (λk=>vk.ownBlock=some k):=sD;refine au (aY eH G G HP Tg G G ?_);exact a01
       refine ay ?_ ?_
       ·intro wD E sD;replace sD:Step M2 _ M2 wD aC:=sD;refine au (aR fC G G G (ch sD Xf) G ?_);exact a01
       refine ay ?_ ?_
       ·intro wD E sD;replace sD:Step M2 _ M2 wD (λk=>vk.ownBlock=some k):=sD;refine eC (vs:=[.int .i64 (eJ (-1) (l.take i)).length,.int .i64 (cV (-1) (l.take i)),.int .i64 (cV (-1) (l.take (i+((l.drop i).take 8).length))),.int .i64 ((l.drop i).take 8).length]) l9 G BI G G G (sD.bU aeD (λhb=>hqv _ hb rfl)) ?_;exact a01
       refine ay ?_ ?_
       ·intro wD E sD;replace sD:Step M2 _ M2 wD aC:=sD;refine au ?_;refine fz (A:=RT.bl) (hn:=by decide) (M:=M2) fC BI Tg G G (sD.lt h16.lt) (ajl q0 q0 q0 q0) (.inl G) (λuS wS hS sS=>?_);exact ad ⟨G,G,_,G,hS,sS⟩
       refine ay ?_ ?_
       ·intro wD E sD;replace sD:Step M2 _ M2 wD aC:=sD;refine au ?_;intro v6 oC;refine dJ (M:=M2) (base:=D+2) fC BI rfl rfl rfl rfl (UH.bP sD) (show((RT.bl).sl).V M2 wD [(((eJ (-1) (l.take i)).length:Int),cV (-1) (l.take i),cV (-1) (l.take (i+((l.drop i).take 8).length)),(((l.drop i).take 8).length:Int))] v6 from oC) bS (by simp[qb];omega) (by simp[qb];omega) (by have:=sD.size;omega) (λv3 M3 w3 SU s3=>?_);exact ad ⟨G,G,_,G,⟨M3,SU,(sD.eI a30 UH.mut_).trans s3 (λb _ hb=>hb)⟩,s3.back⟩
       refine ay ?_ ?_
       ·intro wD E sD;replace sD:Step M2 _ M2 wD (λk=>vk.ownBlock=some k):=sD;refine au (au (au (au (au (au (au ?_))))));intro v6 oC;intro v7 FP;refine bm G ⟨_,G⟩ G ?_;exact a01
       refine ay ?_ ?_
       ·intro wD E sD;replace sD:Step M2 _ M2 wD (λk=>vk.ownBlock=some k):=sD;refine au (au (au (au (au (au (au ?_))))));intro v6 oC;intro v7 FP;refine aY eH G G HP Tg G G ?_;exact a01
       exact jS
      ·intro Zx uT;replace uT:Step M2 _ M2 Zx (λk=>vk.ownBlock=some k):=uT;refine au (au (au (au (au (au ?_)))));intro arY amv;intro arZ Zy;refine au (au ?_);obtain⟨M3,SU,sR⟩:=Zy;obtain⟨⟨hx3,hm3,awB⟩,Xw⟩:=h16.grow sR SU;refine cv (M:=M3) HP rfl rfl hx3 rfl (by obtain⟨_,_,he,_⟩:=SU.isSlice;rw[he];rfl) hm3 (λw17 amw s17=>?_);refine ad ⟨G,?_⟩;have Zh:=Xw s17 amw;have h18:=Zh.qf (st':= .loop (rec .ready none)) Zh.r;have hE:i+((l.drop i).take 8).length=min (i+8) l.length:=by omega
       rw[hE,Oo q0 hi]at h18;exact⟨Zh.r,true,rfl,λ_=>⟨M3,_,_,h18,by omega,by omega⟩,λh=>by cases h⟩
  ·obtain⟨Mz,vb,vk,h,_,_⟩:=h3.resolve_right (λh=>h);left;rw[vU]at h;have h5:=h.qf (st':= .loop (rec .exhausted none)) h.r;refine ⟨h.r,?_⟩;generalize w3.putObj (D+1) _=wE at h5 ⊢;refine T.aQ (aR dR G G G h5.o G (aN G G (Rg.aZ G G (aJ ?_))));obtain⟨q1,q2,q3,q4,q5,q6,q7,q8,q9,q10,q11,q12,q13,q14,q15,q16,q17,q18⟩:=h5.ne;have sZ:Step Mz wE Mz (wE.putObj D (.deferred none)) (λk=>k=D):=gy h5.md;have SZ:=h5.S.cr sZ (λk hk=>by subst hk;omega);have ht:=o9 l;refine XI rfl rfl rfl h5.d ⟨SZ.back,λ_=>⟨_,rfl,?_⟩,λhf=>by rw[uO]at hf;cases hf⟩;exact acp (sZ.bU h5.x q0) (λhh=>by have:=hM _ hh;omega) ((h5.hb.le sZ.le).le (lE hM SZ)) (yF hM SZ ((h5.hk.step sZ (λk hk hh=>by have:=(h5.hk.base k hk).1;omega)).jf q0) (by simp[qb];omega)) q0
namespace TKBldG
theorem kU:TI Tryz.prog 117 (.slice none 0 0) 1 24:=by unfold TI;kernel_rfl
theorem Mh:TI Tryz.prog 249 (.slice none 0 0) 1 24:=by unfold TI;kernel_rfl
theorem UI:Enters Tryz.prog 155:=enters Tryz.func155 rfl Tg
theorem amy:Enters Tryz.prog 196:=enters Tryz.func196 rfl Tg
end TKBldG
open TKBldG
set_option maxRecDepth 10000
theorem index_spec {M:aM} {l:List (List Po)} {v0:Value} {g:FuncId} {cap:List Value} {B:Nat} {J:Nat->aM->World->Prop} {bad:List Po->Bool} (w0:World) (hM:Lt M w0) (hv:(((RT.po).sl).sl).V M w0 l v0) (hg:Enters Tryz.prog g) (hJ:J 0 M w0) (jT:∀i M w M' w',J i M w->Step M w M' w' aC->J i M' w') (ht:∀i M w x vx,J i M w->Lt M w->l[i]? =some x->((RT.po).sl).V M w x vx->Spec Tryz.prog g ([vx]++cap).toArray w (λv w'=>∃M',Lt M' w'∧v= .bool (bad x)/\(bad x=false->J (i+1) M' w')/\Step M w M' w' (lS M B))):
  Spec Tryz.prog 196 #[v0,.func (.func g) #[] cap.toArray] w0 (λv w=>∃M' k,v= .int .i64 k/\ -1<=k/\Lt M' w/\Step M w0 M' w (lS M B)/\(k= -1->(∀x∈l,bad x=false)/\J l.length M' w)/\(0<=k->∃x∈l,bad x=true)):=by
 have hlen:=cU hv;refine bh (args:=[_,_]) (fn:=Tryz.f196) Tryz.func196 G (n:=19) Tryz.ntmps196 ?_;have S:Step M w0 M w0 (lS M B):=(aV).eI a30 (λ_ h=>h.2);refine T.aQ (Rg.aZ G G (aL (T.aQ (ab G G (bC Tryz.underlying112 G hv G (ab G G (ad (aX ?_))))))));refine dd (σ:=Nat) (λq=>[(0,v0),(1,.func (.func g) #[] cap.toArray),(6,v0),(7,.int .i64 (l.length:Int)),(8,.int .i64 (q:Int))]) (λq w=>∃M',Lt M' w/\Step M w0 M' w (lS M B)/\(((RT.po).sl).sl).V M' w l v0/\J q M' w/\q<=l.length/\∀x∈l.take q,bad x=false) (λq=>l.length-q) 0 a56 ?_ ?_
 ·exact⟨M,hM,S,hv,hJ,a8 _,λx h=>by simp at h⟩
 ·clear hM S hv hJ;rintro i w ⟨M1,hM,S,hv,hJ,hi,jt⟩;refine T.aQ (cx G G G (ad (aL ?_)));refine bE G (λc2=>?_) (λc2=>?_)
  ·refine aS (aL (aX (T.aQ (ab G G (Rg.aZ G G (T.aQ (ab G G (ab G G ?_))))))));refine ab G G ?_;refine cC Tryz.underlying112 kU G G G hv bS q0 (λu x HS hu=>?_);rw[ar]at HS;refine bB bJ G G G G G hu bS (λvx zV=>?_);refine oS (first:=[]) (captured:=cap) (xs:=[.tmp 15]) G G G hg (ht i _ _ x vx hJ hM HS zV) (λr4 w4 hc=>?_);obtain⟨M4,Wy,rfl,hJ4,s4⟩:=hc;refine bg (v':= .bool (decide (bad x=true))) (by simp) ?_;have S4:=S.trans s4 (λk hk h=>⟨h.1,(S.mem k hk).1 h.2⟩);refine ad ?_;refine bE G (λc4=>?_) (λc4=>?_)
   ·refine T.aQ (ab G G (Rg.aZ G G (aJ ?_)));exact aK G G ⟨M4,_,G,by omega,Wy,S4,λh=>absurd h q0,λ_=>⟨x,av HS,c4⟩⟩
   ·refine aS (aH (bu G G G q0 (ab G G (ad ?_))));refine⟨G,i+1,a56,?_,?_⟩
    ·have hb:bad x=false:=by simpa using c4
     exact⟨M4,Wy,S4,hv.le s4.le,hJ4 hb,by omega,λy hy=>by
      rw[bY,HS,dp,dI,dn]at hy;rcases hy with hy|rfl
      ·exact jt y hy
      ·exact hb⟩
    ·omega
  ·refine cN (T.aQ (Rg.aZ G G (aJ ?_)));rw[bp q0]at jt;have e:i=l.length:=by omega
   subst e;exact aK G G ⟨_,_,G,by omega,hM,S,λ_=>⟨jt,hJ⟩,λh=>absurd h q0⟩
theorem BU {M:aM} {l:List (List Po)} {v0:Value} {g:FuncId} {cap:List Value} {B:Nat} {J:Nat->aM->World->Prop} {bad:List Po->Bool} (w0:World) (hM:Lt M w0) (hv:(((RT.po).sl).sl).V M w0 l v0) (hg:Enters Tryz.prog g) (hJ:J 0 M w0) (jT:∀i M w M' w',J i M w->Step M w M' w' aC->J i M' w') (ht:∀i M w x vx,J i M w->Lt M w->l[i]? =some x->((RT.po).sl).V M w x vx->Spec Tryz.prog g ([vx]++cap).toArray w (λv w'=>∃M',Lt M' w'∧v= .bool (bad x)/\(bad x=false->J (i+1) M' w')/\Step M w M' w' (lS M B))):
  Spec Tryz.prog 156 #[v0,.func (.func g) #[] cap.toArray] w0 (λv w=>∃M' k,v= .bool (decide (0<=k))/\ -1<=k/\Lt M' w/\Step M w0 M' w (lS M B)/\(k= -1->(∀x∈l,bad x=false)/\J l.length M' w)/\(0<=k->∃x∈l,bad x=true)):=by
 refine bh (args:=[_,_]) (fn:=Tryz.f156) Tryz.func156 G (n:=9) Tryz.ntmps156 (T.aQ (Rg.aZ G G (T.aQ (ab G G (ab G G ?_)))));refine aP G G amy (index_spec w0 hM hv hg hJ jT ht) (λr w1 hc=>?_);obtain⟨M1,k,rfl,hk,h2⟩:=hc;refine eB G G G (Rg.aZ G G (aJ ?_));exact aK G G ⟨M1,k,G,hk,h2⟩
def Gr (x:List Po):Int:=match x.getLast? with|some p=>p.1|none=> -1
def nG (n:Int) (x:List Po):Bool:= !eP (-1) x||x.isEmpty||decide (n<=Gr x)
theorem Gt {x:List Po} {p:Po} (h:x[x.length-1]? =some p):Gr x=p.1:=by
 unfold Gr;rw[List.getLast?_eq_getElem?,h]
structure Room (x:List Po):Prop where
 ps:∀p∈x,p.2.length<=1099511627776
 by_:(eJ (-1) x).length<=35184372088832
 ln:x.length<=1099511627776
 wC:jx x<=4611686018427387904
def RT.cell:RT Value where
 n:=1
 agg:=false
 R:=λ_ _ x vs=>vs=[x]/\x.oneCell'=true
 len:=by rintro _ _ x vs ⟨rfl,_⟩;rfl
 one:=by rintro _ _ x vs ⟨rfl,h⟩ v hv;simp at hv;subst hv;exact h
 le:=λ_ h=>h
theorem UJ {M:aM} {w:World} {v:Value} (h:v.oneCell'=true):RT.cell.V M w v v:=⟨[v],⟨rfl,h⟩,rfl⟩
theorem fN.cells {α:Type} {A:RT α} (hA:A.n=1) {M:aM} {w:World}:∀{xs:List α} {C:List Value},fN A M w xs C->∃ys:List Value,fN RT.cell M w ys C/\ys.length=xs.length
 |[],C,h=>⟨[],h,rfl⟩
 |x::xs,C,h=>by
  obtain⟨vs,r,h1,h2,h3⟩:=h;obtain⟨ys,h4,h5⟩:=fN.cells hA h3;have hl:=A.len h2
  match vs,hl,h1,h2 with
  |[v],_,h1,h2=>exact⟨v::ys,⟨[v],r,h1,⟨rfl,A.one h2 v (by simp)⟩,h4⟩,by simp[h5]⟩
  |[],hl,_,_=>simp at hl;omega
  |_::_::_,hl,_,_=>simp at hl;omega
theorem Own.cells {α:Type} {A:RT α} (hA:A.n=1) {e:TypeId} {M:aM} {w:World} {base:Nat} {v:Value} {xs:List α} (h:Own A e M w base v xs):∃ys:List Value,Own RT.cell e M w base v ys/\ys.length=xs.length:=by
 obtain⟨⟨C,hr,ha⟩,hm⟩:=h;obtain⟨ys,h1,h2⟩:=ha.cells hA;exact⟨ys,⟨⟨C,by rw[h2,show RT.cell.n=A.n from hA.symm];exact hr,h1⟩,hm⟩,h2⟩
def BV (bl bn:Nat) (n:Int) (ls:List (List Po)) (B:Nat) (i:Nat) (M:aM) (w:World):Prop:=∃vl,w.heap[bl]? =some (.cells #[vl] 249 (0,0))/\M bl/\B<=bl/\w.heap[bn]? =some (.cells #[.int .i64 n] 3 (0,0))/\M bn/\Own ((RT.li).ptr) 250 M w B vl ((ls.take i).map lr)
theorem BV.bP {bl bn:Nat} {n:Int} {ls:List (List Po)} {B i:Nat} {M M':aM} {w w':World} (h:BV bl bn n ls B i M w) (s:Step M w M' w' aC):BV bl bn n ls B i M' w':=by
 obtain⟨vl,h1,h2,h3,h4,h5,h6⟩:=h;exact⟨vl,s.aF h1,(s.mem _ (ae h1)).2 h2,h3,s.aF h4,(s.mem _ (ae h4)).2 h5,h6.bP s⟩
theorem Zz {M:aM} {bl bn B i:Nat} {n:Int} {ls:List (List Po)} {x:List Po} {v0:Value} (w0:World) (hM:Lt M w0) (hB:B<=w0.heap.size) (hJ:BV bl bn n ls B i M w0) (hx:ls[i]? =some x) (hv:((RT.po).sl).V M w0 x v0) (hr:Room x) (rL:i<=1000000000) (hm:eP (-1) x=true):
  Spec Tryz.prog 154 #[v0,.pointer (some ⟨bl,0,none⟩),.pointer (some ⟨bn,0,none⟩)] w0 (λv w=>∃M',Lt M' w/\v= .bool (nG n x)/\(nG n x=false->BV bl bn n ls B (i+1) M' w)/\Step M w0 M' w (lS M B)):=by
 have hlen:=cU hv;obtain⟨vl,gl,kV,hBl,gn,mQ,ho⟩:=hJ;have nln:bl≠bn:=λh=>by rw[h,gn]at gl;simp at gl
 refine bh (args:=[_,_,_]) (fn:=Tryz.f154) Tryz.func154 G (n:=34) Tryz.ntmps154 ?_;have S:Step M w0 M w0 (lS M B):=(aV).eI a30 (λ_ h=>h.2);refine T.aQ (Rg.aZ G G (T.aQ (ab G G ?_)));refine aP G G UI (xe hM hv hr.ps hr.by_ hr.ln hr.wC) (λr1 w1 hc=>?_);obtain⟨s1,fa,jt⟩:=hc;obtain⟨p,rfl,hp⟩:=fa hm;have:=ae gl;replace kV:=(s1.mem _ this).2 kV;replace gl:=s1.aF gl;have:=ae gn;replace mQ:=(s1.mem _ this).2 mQ;replace gn:=s1.aF gn;replace hv:=hv.le s1.le;replace ho:=ho.bP s1;replace hM:=s1.lt hM;have:=S.size;replace S:=S.aw s1;refine ab G G (cI G G G (cI G G G (aN G G (Rg.aZ G G (T.aQ (aR fB G G G gl G (bg (v':=vl) G (ab G G ?_))))))));refine fz (A:=((RT.li).ptr)) (hn:=by decide) (M:=M) fB ti Tg G G hM (Kr.2 hp) (.inr ⟨G,G⟩) (λamA amB mR qj=>?_);have:=ae gl;replace kV:=(qj.mem _ this).2 kV;replace gl:=qj.aF gl;have:=ae gn;replace mQ:=(qj.mem _ this).2 mQ;replace gn:=qj.aF gn;replace hv:=hv.le qj.le;replace hp:=hp.le Tg qj.le;replace ho:=ho.bP qj;replace hM:=qj.lt hM;have:=S.size;replace S:=S.aw qj;refine dJ (M:=M) (base:=B) fB ti rfl rfl rfl rfl ho mR bS a11 a11 ah2 (λZA IL amC QE qk=>?_);have:=ae gl;replace kV:=(qk.mem _ this).2 kV;replace gl:=qk.bU gl (λh=>by first|exact ho.eS gl h|exact ho.fK gl Tg h|(have:=(ho.base _ h).1;omega));have:=ae gn;replace mQ:=(qk.mem _ this).2 mQ;replace gn:=qk.bU gn (λh=>by first|exact ho.eS gn h|exact ho.fK gn Tg h|(have:=(ho.base _ h).1;omega));replace hv:=hv.le qk.le;replace hp:=hp.le Tg qk.le;replace mR:=mR.le qk.le;replace hM:=qk.lt hM;have:=S.size
 replace S:=S.trans qk (λk hk h=>⟨(ho.base k h).1,(S.mem k hk).1 (ho.mut_ k h)⟩);replace ho:=QE;refine cv (M:=IL) Mh rfl rfl gl rfl aa2 kV (λZB QF oK=>?_);change ZB.heap[_]? =some (Obj.cells #[ZA] _ _)at QF;have:=ae gl;replace kV:=(oK.mem _ this).2 kV;have:=ae gn;replace mQ:=(oK.mem _ this).2 mQ;replace gn:=oK.bU gn a04;replace hv:=hv.le oK.le;replace hp:=hp.le Tg oK.le;replace mR:=mR.le oK.le;replace ho:=ho.step oK (λc hc (h:c=bl)=>ho.fK gl Tg (h▸hc));replace hM:=oK.lt hM;have:=S.size;replace S:=S.trans oK (λk hk h=>by have h:_=_:=h;subst h;first|(exfalso;omega)|(show _<=_;omega)|exact⟨by first|omega|assumption,(S.mem _ hk).1 ((oK.mem _ (ae gl)).1 kV)⟩|exact .inl rfl|exact .inr rfl|exact .inr (.inl rfl)|exact .inr (.inr rfl)|exact .inr (.inr (.inl rfl))|exact rfl);have gl_:=QF;clear gl;have gl:=gl_;clear gl_;refine ad (aL ?_);apply vV mixed rfl rfl;intro wD3 sA3;have oy:=sA3 IL;have:=ae gl;replace kV:=(oy.mem _ this).2 kV;replace gl:=oy.aF gl;have:=ae gn;replace mQ:=(oy.mem _ this).2 mQ;replace gn:=oy.aF gn;replace hv:=hv.le oy.le;replace hp:=hp.le Tg oy.le;replace mR:=mR.le oy.le;replace ho:=ho.bP oy;replace hM:=oy.lt hM;have:=S.size;replace S:=S.aw oy;refine ab G G (Rg.dh (fm G G G (Rg.dh (ab G G (Rg.dh (Rg.Dd (g:=18) G (Tg) (ah G G (ab G G (Rg.dh (ah G G (bC bJ G hv G ?_)))))))))));refine Rg.dh (ah G G (fe G G G (Rg.dh (aB G G G (Rg.dh (ab G G (Rg.dh ?_)))))));refine aO (g:=23) G (λZC=>?_) (λZC=>?_)
 ·refine aj G G G G (Rg.dh (aj G G G G (Rg.dh (aj G G G G (Rg.dh (aj G G G G (Rg.dh (aj G G G G (Rg.dh (aj G G G G (Rg.dh ?_)))))))))));refine aj G G G G (Rg.dh (aj G G G G (Rg.dh (aj G G G G (Rg.dh (aU G G G (Rg.dh (aN G G (Rg.dh (fL (aJ ?_)))))))))))
  first
  |(have QG:nG n x=true:=by
     have:x=[]:=cB.1 q0;simp[nG,this]
    rw[QG];exact aK G G ⟨_,hM,G,(λh=>by cases h),S⟩)
  |(have fw:x.isEmpty=false:=by cases x with
     |nil=>simp at ZC
     |cons a t=>rfl
    have hbv:nG n x=decide (n<=q.1):=by unfold nG;rw[hm,fw,Gt hq];rfl
    rw[hbv];exact aK rfl rfl ⟨_,hM,rfl,λ_=>⟨_,gl,kV,hBl,gn,mQ,by rw[bY,hx,dp,dU];exact ho⟩,S⟩)
 ·refine ah G G (ab G G (Rg.dh (ah G G (ab G G (Rg.dh (ah G G (bC bJ G hv G (Rg.dh (ah G G (jR G G G q0 (Rg.dh ?_)))))))))));refine ah G G ?_;obtain⟨q,hq⟩:∃q,x[x.length-1]? =some q:=⟨_,aq q0⟩;refine cC bJ jg G G G hv bS q0 (λu3 a YJ gY=>?_);obtain rfl:q=a:=aI (hq.symm.trans (by rw[show((x.length:Int)-1).toNat=x.length-1 from by omega]at YJ;exact YJ));refine Rg.dh (ah G G ?_);refine ao (M:=IL) (A:=RT.po) (B:=RT.int .i64) cw G G I3 Tg (SP) G G Tg Xf (by repeat (first|exact bQ _ _|refine bA (bR Xf) ?_)) (λar1 amE=>?_);refine Rg.dh (ah G G ?_);refine bV (M:=IL) al G G Xf (by repeat (first|exact bQ _ _|refine bA (bR Xf) ?_)) (λQH=>?_);refine bg (v':= .int .i64 (q.1)) G ?_;replace QH: -9223372036854775808<=(q.1:Int)/\q.1<=9223372036854775807:=QH;refine Rg.dh (ah G G (aR al G G G gn G (bg (v':= .int .i64 n) G (Rg.dh (ah G G (eB G G G (Rg.dh (aB G G G (Rg.dh (aN G G (Rg.dh ?_)))))))))));refine fL (aJ ?_)
  first
  |(have QG:nG n x=true:=by
     have:x=[]:=cB.1 q0;simp[nG,this]
    rw[QG];exact aK G G ⟨_,hM,G,(λh=>by cases h),S⟩)
  |(have fw:x.isEmpty=false:=by cases x with
     |nil=>simp at ZC
     |cons a t=>rfl
    have hbv:nG n x=decide (n<=q.1):=by unfold nG;rw[hm,fw,Gt hq];rfl
    rw[hbv];exact aK rfl rfl ⟨_,hM,rfl,λ_=>⟨_,gl,kV,hBl,gn,mQ,by rw[bY,hx,dp,dU];exact ho⟩,S⟩)
theorem UK {M:aM} {bl bn B i:Nat} {n:Int} {ls:List (List Po)} {x:List Po} {v0:Value} (w0:World) (hM:Lt M w0) (hB:B<=w0.heap.size) (hJ:BV bl bn n ls B i M w0) (hx:ls[i]? =some x) (hv:((RT.po).sl).V M w0 x v0) (hr:Room x) (rL:i<=1000000000) (hm:eP (-1) x=false):
  Spec Tryz.prog 154 #[v0,.pointer (some ⟨bl,0,none⟩),.pointer (some ⟨bn,0,none⟩)] w0 (λv w=>∃M',Lt M' w/\v= .bool (nG n x)/\(nG n x=false->BV bl bn n ls B (i+1) M' w)/\Step M w0 M' w (lS M B)):=by
 have hlen:=cU hv;obtain⟨vl,gl,kV,hBl,gn,mQ,ho0⟩:=hJ;have nln:bl≠bn:=λh=>by rw[h,gn]at gl;simp at gl
 obtain⟨ys,ho,hyl⟩:=ho0.cells rfl;rw[bW,a7]at hyl;clear ho0;refine bh (args:=[_,_,_]) (fn:=Tryz.f154) Tryz.func154 G (n:=34) Tryz.ntmps154 ?_;have S:Step M w0 M w0 (lS M B):=(aV).eI a30 (λ_ h=>h.2);refine T.aQ (Rg.aZ G G (T.aQ (ab G G ?_)));refine aP G G UI (xe hM hv hr.ps hr.by_ hr.ln hr.wC) (λr1 w1 hc=>?_);obtain⟨s1,fa,jt⟩:=hc;obtain rfl:=jt hm;have:=ae gl;replace kV:=(s1.mem _ this).2 kV;replace gl:=s1.aF gl;have:=ae gn;replace mQ:=(s1.mem _ this).2 mQ;replace gn:=s1.aF gn;replace hv:=hv.le s1.le;replace ho:=ho.bP s1;replace hM:=s1.lt hM;have:=S.size;replace S:=S.aw s1;refine ab G G (cI G G G (cI G G G (aN G G (Rg.aZ G G (T.aQ (aR fB G G G gl G (bg (v':=vl) G (ab G G ?_))))))));refine fz (A:=RT.cell) (hn:=by decide) (M:=M) fB ti Tg G G hM (UJ (v:= .pointer none) G) (.inr ⟨G,G⟩) (λamA amB mR qj=>?_);have:=ae gl;replace kV:=(qj.mem _ this).2 kV;replace gl:=qj.aF gl;have:=ae gn;replace mQ:=(qj.mem _ this).2 mQ;replace gn:=qj.aF gn;replace hv:=hv.le qj.le;replace ho:=ho.bP qj;replace hM:=qj.lt hM;have:=S.size;replace S:=S.aw qj;refine dJ (M:=M) (base:=B) fB ti rfl rfl rfl rfl ho mR bS a11 a11 ah2 (λZA IL amC QE qk=>?_);have:=ae gl;replace kV:=(qk.mem _ this).2 kV;replace gl:=qk.bU gl (λh=>by first|exact ho.eS gl h|exact ho.fK gl Tg h|(have:=(ho.base _ h).1;omega));have:=ae gn;replace mQ:=(qk.mem _ this).2 mQ;replace gn:=qk.bU gn (λh=>by first|exact ho.eS gn h|exact ho.fK gn Tg h|(have:=(ho.base _ h).1;omega));replace hv:=hv.le qk.le;replace mR:=mR.le qk.le;replace hM:=qk.lt hM
 have:=S.size;replace S:=S.trans qk (λk hk h=>⟨(ho.base k h).1,(S.mem k hk).1 (ho.mut_ k h)⟩);replace ho:=QE;refine cv (M:=IL) Mh rfl rfl gl rfl aa2 kV (λZB QF oK=>?_);change ZB.heap[_]? =some (Obj.cells #[ZA] _ _)at QF;have:=ae gl;replace kV:=(oK.mem _ this).2 kV;have:=ae gn;replace mQ:=(oK.mem _ this).2 mQ;replace gn:=oK.bU gn a04;replace hv:=hv.le oK.le;replace mR:=mR.le oK.le;replace ho:=ho.step oK (λc hc (h:c=bl)=>ho.fK gl Tg (h▸hc));replace hM:=oK.lt hM;have:=S.size;replace S:=S.trans oK (λk hk h=>by have h:_=_:=h;subst h;first|(exfalso;omega)|(show _<=_;omega)|exact⟨by first|omega|assumption,(S.mem _ hk).1 ((oK.mem _ (ae gl)).1 kV)⟩|exact .inl rfl|exact .inr rfl|exact .inr (.inl rfl)|exact .inr (.inr rfl)|exact .inr (.inr (.inl rfl))|exact rfl);have gl_:=QF;clear gl;have gl:=gl_;clear gl_;refine ad (aL ?_);apply vV mixed rfl rfl;intro wD3 sA3;have oy:=sA3 IL;have:=ae gl;replace kV:=(oy.mem _ this).2 kV;replace gl:=oy.aF gl;have:=ae gn;replace mQ:=(oy.mem _ this).2 mQ;replace gn:=oy.aF gn;replace hv:=hv.le oy.le;replace mR:=mR.le oy.le;replace ho:=ho.bP oy;replace hM:=oy.lt hM;have:=S.size;replace S:=S.aw oy;refine ab G G (Rg.dh (fm G G G (Rg.dh (ab G G (Rg.dh (Rg.NQ (g:=18) G (Tg) (aj G G G G (Rg.dh (aj G G G G (Rg.dh (aj G G G G ?_)))))))))));refine Rg.dh (aU G G G (Rg.dh (ab G G (Rg.dh (aj G G G G (Rg.dh (aj G G G G (Rg.dh (aj G G G G (Rg.dh (aj G G G G ?_)))))))))));refine Rg.dh (aj G G G G (Rg.dh (aj G G G G (Rg.dh (aj G G G G (Rg.dh (aj G G G G (Rg.dh (aj G G G G (Rg.dh (aU G G G ?_)))))))))))
 refine Rg.dh (aN G G (Rg.dh (fL (aJ ?_))));have QG:nG n x=true:=by simp[nG,hm]
 rw[QG];exact aK G G ⟨_,hM,G,(λh=>by cases h),S⟩
theorem QI {M:aM} {bl bn B i:Nat} {n:Int} {ls:List (List Po)} {x:List Po} {v0:Value} (w0:World) (hM:Lt M w0) (hB:B<=w0.heap.size) (hJ:BV bl bn n ls B i M w0) (hx:ls[i]? =some x) (hv:((RT.po).sl).V M w0 x v0) (hr:Room x) (rL:i<=1000000000):
  Spec Tryz.prog 154 #[v0,.pointer (some ⟨bl,0,none⟩),.pointer (some ⟨bn,0,none⟩)] w0 (λv w=>∃M',Lt M' w/\v= .bool (nG n x)/\(nG n x=false->BV bl bn n ls B (i+1) M' w)/\Step M w0 M' w (lS M B)):=by
 cases hm:eP (-1) x with
 |true=>exact Zz w0 hM hB hJ hx hv hr rL hm
 |false=>exact UK w0 hM hB hJ hx hv hr rL hm
end Go.K
namespace Go.K
open Go.Proofs
namespace TKBldH
theorem Mi:TI Tryz.prog 112 (.slice none 0 0) 1 24:=by unfold TI;kernel_rfl
theorem UL:TI Tryz.prog 114 (.agg #[(.slice none 0 0),(.slice none 0 0),(.slice none 0 0),(.slice none 0 0)]) 4 96:=by unfold TI;kernel_rfl
theorem amF:TI Tryz.prog 215 (.agg #[(.slice none 0 0),(.slice none 0 0),(.pointer none)]) 3 56:=by unfold TI;kernel_rfl
theorem Mh:TI Tryz.prog 249 (.slice none 0 0) 1 24:=by unfold TI;kernel_rfl
theorem amG:placesOf Tryz.prog 215=[(0,1),(1,1),(2,1)].map some:=by kernel_rfl
theorem L9:Enters Tryz.prog 100:=enters Tryz.func100 rfl Tg
theorem amH:Enters Tryz.prog 101:=enters Tryz.func101 rfl Tg
theorem amI:Enters Tryz.prog 153:=enters Tryz.func153 rfl Tg
theorem amJ:Enters Tryz.prog 154:=enters Tryz.func154 rfl Tg
theorem amK:Enters Tryz.prog 156:=enters Tryz.func156 rfl Tg
theorem amL:Enters Tryz.prog 157:=enters Tryz.func157 rfl Tg
end TKBldH
open TKBldH
set_option maxRecDepth 10000
def Bw (p:Pa):Bool:=decide (p.1.length=p.2.1.length)&&gm (-1) p.2.1&&p.2.2.2.all (λx=> !nG (p.1.length:Int) x)&&decide (p.2.2.1.length=p.2.2.2.length)&&Gh none p.2.2.1
def Gu (p:Pa):Se:=(p.1,p.2.1,p.2.2.1,p.2.2.2.map lr)
structure QK (p:Pa):Prop where
 a:p.1.length<=1000000000
 b:p.2.1.length<=1000000000
 c:p.2.2.1.length<=1000000000
 d:p.2.2.2.length<=1000000000
 e:∀x∈p.2.2.2,Room x
theorem IM {M:aM} {p:Pa} {v0:Value} (w0:World) (hM:Lt M w0) (hv:RT.pa.V M w0 p v0) (hR:QK p):
  Spec Tryz.prog 101 #[v0] w0 (λv w=>Step M w0 M w aC/\(Bw p=true->cO RT.se M w v (Gu p))/\(Bw p=false->v= .pointer none)):=by
 have gv:=hM;obtain⟨hRa,hRb,hRc,hRd,hRe⟩:=hR;refine bh (args:=[_]) (fn:=Tryz.f101) Tryz.func101 G (n:=45) Tryz.ntmps101 ?_;have S:Step M w0 M w0 aC:=aV;refine T.aQ ?_;refine ef (A:=RT.pa) G G hM hv G (λu0 w1 dG s0 _=>?_);replace hM:=s0.lt hM;have:=S.size;replace S:=S.aw s0;refine Rg.aZ G G (T.aQ ?_);refine ao (M:=M) (A:=RT.pa) (B:=(RT.int .i64).sl) dF G G qc Tg (pa0) G G Tg Xf (by repeat (first|exact bQ _ _|refine bA (bR Xf) ?_)) (λzX kG=>?_);refine bB (M:=M) az G G G G G Xf (by repeat (first|exact bQ _ _|refine bA (bR Xf) ?_)) (λyx lx=>?_);replace lx:((RT.int .i64).sl).V M _ p.1 yx:=lx;refine bC az G lx G ?_;refine ew M I3 G (λyy LJ akV akW ju s1_3=>?_);obtain⟨nw,Aa⟩:∃M',M'=ins M yy:=⟨_,rfl⟩;rw[<-Aa]at s1_3;have j2:nw yy:=by rw[Aa];exact .inl G
 change LJ.heap[yy]? =some (.cells #[.int .i64 0] _ _)at ju;replace dG:=dG.le Tg s1_3.le;replace hM:=s1_3.lt hM;have:=S.size;replace S:=S.aw s1_3;refine cv (M:=nw) I3 G G ju G (G) j2 (λYl Ml mJ=>?_);change Yl.heap[_]? =some (Obj.cells #[.int .i64 (p.1.length:Int)] _ _)at Ml;have:=ae ju;replace j2:=(mJ.mem _ this).2 j2;replace dG:=dG.le Tg mJ.le;replace hM:=mJ.lt hM;have:=S.size;replace S:=S.trans mJ (λk hk h=>by have h:_=_:=h;subst h;first|(exfalso;omega)|(show _<=_;omega)|exact⟨by first|omega|assumption,(S.mem _ hk).1 ((mJ.mem _ (ae ju)).1 j2)⟩|exact .inl rfl|exact .inr rfl|exact .inr (.inl rfl)|exact .inr (.inr rfl)|exact .inr (.inr (.inl rfl))|exact rfl);have FG:=Ml;clear ju;have ju:=FG;clear FG;refine ad (aL (T.aQ ?_));refine ao (M:=nw) (A:=RT.pa) (B:=(RT.int .i64).sl) dF G G qc Tg (pa1) G G Tg Xf (by repeat (first|exact bQ _ _|refine bA (bR Xf) ?_)) (λawG ar3=>?_);refine bB (M:=nw) az G G G G G Xf (by repeat (first|exact bQ _ _|refine bA (bR Xf) ?_)) (λamM QL=>?_);replace QL:((RT.int .i64).sl).V nw _ p.2.1 amM:=QL;refine bC az G QL G (aR al G G G ju G (bg (v':= .int .i64 (p.1.length:Int)) G (fm G G G (ab G G ?_))));refine aO (g:=16) G (λamN=>?_) (λamN=>?_)
 ·refine aj G G G G (aj G G G G (aj G G G G (aj G G G G (aU G G G (ad (kD G (T.aQ (Rg.aZ G G (aJ ?_)))))))))
  have eb:Bw p=false:=by
   unfold Bw
   first
   |(rw[decide_eq_false (show¬p.1.length=p.2.1.length by omega)];simp;done)
   |(simp[c2];done)
  exact aK rfl rfl ⟨S.back,λh=>by(rw[eb]at h;cases h),λ_=>rfl⟩
 ·have KA:p.1.length=p.2.1.length:=by omega
  refine ah G G ?_;refine ao (M:=nw) (A:=RT.pa) (B:=(RT.int .i64).sl) dF G G qc Tg (pa1) G G Tg Xf (by repeat (first|exact bQ _ _|refine bA (bR Xf) ?_)) (λawH ar4=>?_);refine ah G G ?_;refine bB (M:=nw) az G G G G G Xf (by repeat (first|exact bQ _ _|refine bA (bR Xf) ?_)) (λamO QM=>?_);replace QM:((RT.int .i64).sl).V nw _ p.2.1 amO:=QM;refine ah G G ?_;refine aP G G amI (Md _ QM) (λr wc hc=>?_);obtain⟨rfl,rfl⟩:=hc;refine ah G G (fV G G (bg (v':= .bool (decide (¬gm (-1) p.2.1=true))) (by simp) (aB G G G (ad ?_))));refine bE G (λc2=>?_) (λc2=>?_)
  ·refine T.aQ (Rg.aZ G G (aJ ?_))
   have eb:Bw p=false:=by
    unfold Bw
    first
    |(rw[decide_eq_false (show¬p.1.length=p.2.1.length by omega)];simp;done)
    |(simp[c2];done)
   exact aK rfl rfl ⟨S.back,λh=>by(rw[eb]at h;cases h),λ_=>rfl⟩
  ·have er:gm (-1) p.2.1=true:=ck.1 c2;refine aS (T.aQ ?_);refine ew nw Mh G (λQN OX awI awJ Fv lM=>?_);obtain⟨KB,QO⟩:∃M',M'=ins nw QN:=⟨_,rfl⟩;rw[<-QO]at lM;have ZD:KB QN:=by rw[QO];exact .inl G
   change OX.heap[QN]? =some (.cells #[.slice none 0 0] _ _)at Fv;have:=ae ju;replace j2:=(lM.mem _ this).2 j2;replace ju:=lM.aF ju;replace dG:=dG.le Tg lM.le;replace hM:=lM.lt hM;have:=S.size;replace S:=S.aw lM;refine ad (T.aQ (iS (xs:=[]) (ys:=[.tmp 4,.tmp 3]) G G G (Rg.aZ G G (aL (T.aQ ?_)))));refine ao (M:=KB) (A:=RT.pa) (B:=((RT.po).sl).sl) dF G G Mi Tg (pa3) G G Tg Xf (by repeat (first|exact bQ _ _|refine bA (bR Xf) ?_)) (λYD FH=>?_);refine bB (M:=KB) Tryz.underlying112 G G G G G Xf (by repeat (first|exact bQ _ _|refine bA (bR Xf) ?_)) (λYE Ab=>?_);replace Ab:(((RT.po).sl).sl).V KB _ p.2.2.2 YE:=Ab;refine ab G G ?_;refine aP G G amK (BU (cap:=[.pointer (some ⟨QN,0,none⟩),.pointer (some ⟨yy,0,none⟩)]) (B:=w0.heap.size) (J:=BV QN yy (p.1.length:Int) p.2.2.2 w0.heap.size) (bad:=nG (p.1.length:Int)) _ hM Ab amJ ⟨_,Fv,ZD,by omega,ju,j2,eL _ _ _ _ _⟩ (λi M w M' w' h s=>h.bP s) (λi M w x vx hJ hM hx zV=>QI w hM (by obtain⟨_,h1,_,h2,_⟩:=hJ;have:=ae h1;omega) hJ hx zV (hRe x (av hx)) (by have:=(an.1 hx).1;omega))) (λr6 w6 hc=>?_);obtain⟨M6,k6,rfl,hk6,Qo,s6,hk7,Wz⟩:=hc;replace dG:=dG.le Tg s6.le;replace S:=S.mi s6 (bz _);refine ad ?_;refine bE G (λc6=>?_) (λc6=>?_)
   ·obtain⟨x6,hx6,rO⟩:=Wz c6
    have eb:Bw p=false:=by
     unfold Bw;have:p.2.2.2.all (λx=> !nG (p.1.length:Int) x)=false:=List.all_eq_false.2 ⟨x6,hx6,by simp[rO]⟩;simp[this]
    refine T.aQ (Rg.aZ G G (aJ ?_));exact aK rfl rfl ⟨S.back,λh=>by(rw[eb]at h;cases h),λ_=>rfl⟩
   ·refine aS (T.aQ ?_);obtain⟨rO,⟨vl,gl,_,_,_,_,sk⟩⟩:=hk7 q0;rw[bp (bz _)]at sk;have lG:(((RT.li).ptr).sl).V M w6 (p.2.2.2.map lr) vl:=sk.close gv S a11;replace dG:cO RT.pa M w6 u0 p:=dG.le Tg (lE gv S);replace S:=S.back;replace hM:=S.lt gv;refine ao (A:=RT.pa) (B:=RT.str.sl) dF G G rA Tg pa2 G G Tg dG bS (λamP WA=>?_);refine bB (M:=M) ax G G G G G Xf (by repeat (first|exact bQ _ _|refine bA (bR Xf) ?_)) (λaeF CG=>?_);replace CG:(RT.str.sl).V M _ p.2.2.1 aeF:=CG;refine aR fB G G G gl G (bg (v':=vl) G ?_);refine aP G G amL (Ix _ hM CG lG q0 a11) (λr8 w8 hc=>?_);obtain⟨pd,rfl,SY,s8⟩:=hc;replace dG:=dG.le Tg s8.le;replace lG:=lG.le s8.le;replace gl:=s8.aF gl;replace hM:=s8.lt hM;have:=S.size;replace S:=S.aw s8;refine ab G G (cI G G G (cI G G G (aN G G (Rg.aZ G G (aL (T.aQ (ab G G (fm G G G (ad ?_)))))))));refine bE G (λc9=>?_) (λc9=>?_)
    ·have eb:Bw p=false:=by
      by_cases h:Bw p=true
      ·unfold Bw at h;simp only[cz,decide_eq_true_eq]at h;exact absurd (by rw[if_pos ⟨by simp[h.1.2],h.2⟩]) c9
      ·simpa using h
     refine T.aQ (Rg.aZ G G (aJ ?_));exact aK rfl rfl ⟨S.back,λh=>by(rw[eb]at h;cases h),λ_=>rfl⟩
    ·have e9:(p.2.2.1.length=(p.2.2.2.map lr).length/\Gh none p.2.2.1=true):=by
      by_cases h:(p.2.2.1.length=(p.2.2.2.map lr).length/\Gh none p.2.2.1=true)
      ·exact h
      ·exact absurd (by rw[if_neg h];decide) c9
     replace SY:=SY e9.1 e9.2;refine aS (aL ?_);apply T.VT [0,1,3,4,6,2,5,7,8,9] 5 [2,3,4] 2 aC mixed
     ·simp+decide only[Cd,wx,eV,sG,Br,Bs,nR,eY,j4,List.idxOf_cons,cond_true,cond_false,Nat.reduceBEq,Nat.reduceAdd,beq_self_eq_true];rfl
     ·rfl
     ·rfl
     ·rfl
     ·rfl
     ·rfl
     ·rfl
     intro Ge Y2;have ej:=Y2 M;replace dG:=dG.le Tg ej.le;replace lG:=lG.le ej.le;replace gl:=ej.aF gl;replace hM:=ej.lt hM;have:=S.size;replace S:=S.aw ej;refine ao (M:=M) (A:=RT.pa) (B:=(RT.int .i64).sl) dF G G qc Tg (pa0) G G Tg Xf (by repeat (first|exact bQ _ _|refine bA (bR Xf) ?_)) (λPn DM=>?_);refine Rg.dh ?_;refine bB (M:=M) az G G G G G Xf (by repeat (first|exact bQ _ _|refine bA (bR Xf) ?_)) (λWB xf=>?_);replace xf:((RT.int .i64).sl).V M _ p.1 WB:=xf;refine Rg.dh ?_;refine ao (M:=M) (A:=RT.pa) (B:=(RT.int .i64).sl) dF G G qc Tg (pa1) G G Tg Xf (by repeat (first|exact bQ _ _|refine bA (bR Xf) ?_)) (λar6 ZE=>?_);refine Rg.dh ?_;refine bB (M:=M) az G G G G G Xf (by repeat (first|exact bQ _ _|refine bA (bR Xf) ?_)) (λaeG pL=>?_);replace pL:((RT.int .i64).sl).V M _ p.2.1 aeG:=pL;refine Rg.dh (ab G G (Rg.dh (fL ?_)));obtain⟨bb,oo,cs,ee,fr,rfl,oc,_⟩:=ZE.float;refine ⟨jo ⟨kj dF G qc Tg,⟨gR G oc (λh=>h),⟨kd,trivial⟩⟩⟩,?_⟩;have kp:=kn aC Ge;refine aP G G L9 (Al hM xf q0) (λv5 w5 hc=>?_);obtain⟨pA,s5⟩:=hc;replace pL:=pL.le s5.le;replace SY:=(SY.le Tg ej.le).le Tg s5.le;replace dG:=dG.le Tg s5.le;replace lG:=lG.le s5.le;replace gl:=s5.aF gl;replace hM:=s5.lt hM;have:=S.size;replace S:=S.aw s5;refine(fun(kp:fG _ _ _)=>ad ⟨G,G,λ_=>kp,?_⟩) a02
     refine aP G G L9 (Al hM pL q0) (λv6 w6' hc=>?_);obtain⟨oC,WC⟩:=hc;replace dG:=dG.le Tg WC.le;replace lG:=lG.le WC.le;replace pA:=pA.le WC.le;replace pL:=pL.le WC.le;replace SY:=SY.le Tg WC.le;replace gl:=WC.aF gl;replace hM:=WC.lt hM;have:=S.size;replace S:=S.aw WC;refine(fun(kp:fG _ _ _)=>ad ⟨G,G,λ_=>kp,?_⟩) a02;refine dw (places:=[(0,1),(1,1),(2,1)]) Tryz.underlying215 amF amG rfl ⟨_,_,rfl,rfl,_,_,rfl,rfl,_,_,rfl,rfl,rfl⟩ (out:=[_,_,_]) ⟨0,[_],rfl,jl pA,by simp[Value.cells],1,[_],rfl,jl oC,by simp[Value.cells],2,[_],rfl,CD SY,by simp[Value.cells],rfl⟩ (ad ⟨rfl,rfl,λh=>absurd rfl h,?_⟩);refine ef (A:=RT.se) (a:=Gu p) G G hM (alj (x:=Gu p) pA oC SY) G (λu8 w8' Ax UM _=>?_);replace dG:=dG.le Tg UM.le;replace lG:=lG.le UM.le;replace pA:=pA.le UM.le;replace pL:=pL.le UM.le;replace SY:=SY.le Tg UM.le;replace oC:=oC.le UM.le;replace gl:=UM.aF gl;replace hM:=UM.lt hM;have:=S.size;replace S:=S.aw UM;refine ad ⟨G,G,λh=>absurd G h,aN G G (ad ⟨G,G,λh=>absurd G h,nT (aJ ?_)⟩)⟩
     have eb:Bw p=true:=by
      unfold Bw;rw[decide_eq_true KA,er,e9.2,decide_eq_true (by simpa using e9.1),dZ.2 (λx hx=>by simp[rO x hx])];rfl
     exact aK rfl rfl ⟨S.back,λ_=>Ax,λh=>by(rw[eb]at h;cases h)⟩
theorem IN {M:aM} {p:Pa} {v0:Value} (w0:World) (hM:Lt M w0) (hv:RT.pa.V M w0 p v0) (hR:QK p):
  Spec Tryz.prog 52 #[v0] w0 (λv w=>Step M w0 M w aC/\(Bw p=true->∃s,v= .tuple #[s,.int .i64 0]/\cO RT.se M w s (Gu p))/\(Bw p=false->v= .tuple #[.pointer none,.int .i64 1])):=by
 refine bh (args:=[_]) (fn:=Tryz.f52) Tryz.func52 G (n:=10) Tryz.ntmps52 ?_;have S:Step M w0 M w0 aC:=aV;refine T.aQ ?_;refine ef (A:=RT.pa) G G hM hv G (λu0 w1 dG s0 _=>?_);replace hM:=s0.lt hM;have:=S.size;replace S:=S.aw s0;refine aN G G (Rg.aZ G G (T.aQ ?_));refine bN (A:=RT.pa) dF G UL Tg G G G dG bS (λv1 kg=>?_);refine aP G G amH (IM _ hM kg hR) (λr1 w2 hc=>?_);obtain⟨s2,fa,jt⟩:=hc
 obtain⟨o1,ho1⟩:∃o,r1= .pointer o:=by
  cases h:Bw p with
  |true=>obtain⟨b,o,_,h1,_⟩:=fa h;exact⟨_,h1⟩
  |false=>exact⟨none,jt h⟩
 subst ho1;replace dG:=dG.le Tg s2.le;replace hM:=s2.lt hM;have:=S.size;replace S:=S.aw s2;refine Rg.aZ G G (aL (T.aQ (ab G G (Rg.JZ Tryz.underlying31 G G G (ad ?_)))));refine bE G (λc2=>?_) (λc2=>?_)
 ·refine T.aQ (aN G G (Rg.aZ G G (aJ ?_)))
  have eb:Bw p=false:=by
   by_cases h:Bw p=true
   ·obtain⟨b,o,_,h1,_⟩:=fa h;rw[c2]at h1;cases h1
   ·simpa using h
  exact fA rfl rfl rfl ⟨S.back,λh=>by(rw[eb]at h;cases h),λ_=>rfl⟩
 ·refine aS (T.aQ (ab G G (aN G G (Rg.aZ G G (aJ ?_)))))
  have eb:Bw p=true:=by
   by_cases h:Bw p=true
   ·exact h
   ·have:=jt a86;simp at this;exact absurd this c2
  exact fA rfl rfl rfl ⟨S.back,λ_=>⟨_,rfl,fa eb⟩,λh=>by(rw[eb]at h;cases h)⟩
end Go.K
namespace Go.K
section
variable {P:Program} {r:Option Nat} {n:Nat} {L:Sl} {ds:List Deferred} {w:World} {K:Kt} {M:aM} {F:List (Nat×aM)}
def uU (l:List Oper) (m q d:Nat):Bool:=
 Nat.blt q m&&nr l [q] m ((l[m]?.map dg).getD [])&&kJ l (m+1)&&
 ((List.range' m (l.length-m)).all λj=>match l[j]? with
  |some o=>tc o.op&&(!(asks l o).contains d||(dg o).contains q)
  |none=>true)
theorem xY {l:List Oper} {m q d:Nat} (h:uU l m q d=true):q<m/\nr l [q] m ((l[m]?.map dg).getD [])=true/\kJ l (m+1)=true/\∀j o,m<=j->l[j]? =some o->tc o.op=true/\(d∈asks l o->q∈dg o):=by
 simp only[uU,cz,Nat.blt_eq]at h;obtain⟨⟨⟨h1,h2⟩,h3⟩,h4⟩:=h;refine ⟨h1,h2,h3,λj o hj ho=> ?_⟩;have eZ:=(an.1 ho).1;have:=dZ.1 h4 j (List.mem_range'_1.2 ⟨hj,by omega⟩);rw[ho]at this;simp only[cz,yU,sJ,gj]at this;refine ⟨this.1,λhd=> ?_⟩;rcases this.2 with h|h
 ·rw[<-Bool.not_eq_true,gj]at h;exact absurd hd h
 ·exact h
structure TJ (P:Program) (r:Option Nat) (n:Nat) (l:List Oper) (m q d:Nat) (c:Value) (Gs:List (Nat×Nat×(Value->Prop))) (L:Sl) (K:Kt) (ds:List Deferred) (D:Nat->Prop) (a:Act) (w:World) (p:Nat) (ac:Act) (Lp:Sl) (wq:World):Prop where
 p0:m<=p
 p1:p<=l.length
 dt:∀i,i<l.length->i≠q->(D i↔i<p)
 ag:iU n ac Lp ds
 tr:ua P r n l.toArray aC wq K 0 (l.drop p) Lp ds w
 yes:D q->a=ac
 no: ¬D q->ac=a.put (some d) c/\∀t u,(lk (kq l q L) t=some u->a.tmps[t]? =some u)
 fl: ¬D q->∀g∈Gs,∃v,a.tmps[g.2.1]? =some v/\g.2.2 v
theorem put_comm (a:Act) {d:Nat} {e:Option Nat} (h:e≠some d) (c v:Value):(a.put (some d) c).put e v=(a.put e v).put (some d) c:=by
 cases e with
 |none=>rfl
 |some e=>
  have fw:e≠d:=λh'=>h (by rw[h'])
  simp only[Act.put];congr 1;apply Array.ext_getElem?;intro i;simp only[dH,Array.size_setIfInBounds];by_cases h1:e=i<;>by_cases h2:d=i<;>simp_all
theorem CH (a:Act) {d t:Nat} (c:Value) (h:t≠d):(a.put (some d) c).tmps[t]? =a.tmps[t]? :=by rw[ib,if_neg (λe=>h (by injection e with e;exact e.symm))]
theorem TJ.next {l:List Oper} {m q d:Nat} {c:Value} {Gs:List (Nat×Nat×(Value->Prop))} (hG:∀g∈Gs,∃o,l[g.1]? =some o/\o.dst=some g.2.1/\g.1<m) (dP:fq l 0=true) (fa:uU l m q d=true) {oq:Oper} (hq:l[q]? =some oq) (IP:oq.dst=some d) (ZF:jX oq.op=true) (UN:oq.guard=none)
  (iz:∀(ρ:Operand->Value) w,(∀x u,ev (kq l q L) x=some u->ρ x=u)->(∀g∈Gs,g.2.2 (ρ (.tmp g.2.1)))->(execOp ρ oq).run P w= .ok (.value c) w)
  {Q:Exit->Act->World->Prop} {D:Nat->Prop} {a:Act} {w:World} {j:Nat} {o:Oper} {rest:List Nat} (ho:l[j]? =some o) (nW: ¬D j) (hp:∀k∈dg o,D k) {p:Nat} {ac:Act} {Lp:Sl} {wq:World} (hi:TJ P r n l m q d c Gs L K ds D a w p ac Lp wq)
  (hk:∀a' w',(∃p ac Lp wq,TJ P r n l m q d c Gs L K ds (λi=>i=j\/D i) a' w' p ac Lp wq)->wpOpsIn (FW r) 0 P l.toArray Q rest a' w'):wpOpsIn (FW r) 0 P l.toArray Q (j::rest) a w:=by
 obtain⟨hqm,_,BC,rW⟩:=xY fa;have oX:=(an.1 ho).1;by_cases hjq:j=q
 ·subst hjq;rw[hq]at ho;cases ho;obtain⟨KC,lg⟩:=hi.no nW;refine One.run (by simpa using hq) ZF (v:=c) ?_ (hk _ _ ⟨p,ac,Lp,wq,hi.p0,hi.p1,λi h1 h2=>⟨λh=>(hi.dt i h1 h2).1 (h.resolve_left h2),λh=> .inr ((hi.dt i h1 h2).2 h)⟩,hi.ag,hi.tr,λ_=>by rw[KC,IP],λh=>absurd (.inl rfl) h,λh=>absurd (.inl rfl) h⟩);unfold One;rw[if_pos (by simp[Region.wanted,UN])];refine iz a.eval w (λx u hx=>?_) (λg hg=>by obtain⟨v,h1,h2⟩:=hi.fl nW g hg;simpa[Act.eval,h1]using h2)
  cases x with
  |tmp t=>simp only[ev]at hx;simp[Act.eval,lg t u hx]
  |const v=>simp only[ev]at hx;cases hx;rfl
  |global g=>simp only[ev]at hx;cases hx;rfl
  |func f=>simp only[ev]at hx;cases hx;rfl
 ·have hjp:j=p:=by
   have h1:p<=j:=by
    rcases cH j p with h|h
    ·exact absurd ((hi.dt j oX hjq).2 h) nW
    ·exact h
   have:=hi.p0;rcases cH m j with h|h
   ·have h2:=hp _ (mq BC (j:=j) q0 ho);have:=(hi.dt (j-1) q0 q0).1 h2;omega
   ·omega
  subst hjp;obtain⟨hto,hta⟩:=rW j o hi.p0 ho;have Dg:o.dst≠some d:=λh=>hjq (fS dP ho hq h IP)
  have Ey:∀t∈asks l o,a.tmps[t]? =ac.tmps[t]? :=λt ht=>by
   by_cases hD:D q
   ·rw[hi.yes hD]
   ·rw[(hi.no hD).1,CH];rintro rfl;exact hD (hp q (hta ht))
  obtain⟨Nq,tX⟩:=n0 Ey
  have hdf:a.defers=ac.defers:=by
   by_cases hD:D q
   ·rw[hi.yes hD]
   ·rw[(hi.no hD).1,put_defers]
  have Cc:=hi.tr;rw[fp oX,(an.1 ho).2]at Cc;have h1:=Rg.run Cc ac hi.ag;refine EW (by simpa using ho) hto Nq tX hdf h1 (λe a w ⟨_,_,_,he,_⟩=>he) (λv w' ⟨L',p9,hA,_,Oc,_,XE⟩=>?_) (λd' w' ⟨L',p9,hA,_,Oc,_⟩=>?_)
  ·rw[Oc]at hA;refine hk _ _ ⟨j+1,ac.put o.dst v,L',wq,by have:=hi.p0;omega,by omega,λi h3 h4=>?_,hA,XE,λh=>?_,λh=>?_,λh g hg=>?_⟩
   ·constructor
    ·rintro(h|h)
     ·omega
     ·have:=(hi.dt i h3 h4).1 h;omega
    ·intro h;rcases qx (show i<=j by omega)with h5|h5
     ·exact .inl h5
     ·exact .inr ((hi.dt i h3 h4).2 h5)
   ·rw[hi.yes (h.resolve_left (λe=>hjq e.symm))]
   ·have hD: ¬D q:=λh'=>h (.inr h')
    obtain⟨KC,lg⟩:=hi.no hD;refine ⟨by rw[KC,put_comm a Dg],λt u ht=> ?_⟩;obtain⟨h3,h4⟩:=j7 (f:=lh l q) ht;rw[ib,if_neg,lg t u ht];intro e;simp only[lh,dZ]at h3;have:=h3 o (av ho);simp only[e,beq_self_eq_true,Bool.not_true,Bool.false_or,gj]at this;exact hD (hp q this)
   ·obtain⟨v',h1,h2⟩:=hi.fl (λh'=>h (.inr h')) g hg;obtain⟨og,g1,g2,g3⟩:=hG g hg;refine⟨v',?_,h2⟩;rw[ib,if_neg,h1];intro e;have:=fS dP ho g1 e g2;have:=hi.p0;omega
  ·have h3:=hA.defers;rw[put_defers,Oc]at h3;have h4:=congrArg List.length h3;rw[hi.ag.defers]at h4;simp at h4
theorem jH.ZG {l:List Oper} {wd:World} (m q d:Nat) (c:Value) {oq:Oper} (F:List (Nat×aM)) (S:List (cj M)) (Gs:List (Nat×Nat×(Value->Prop))) (XC:S.length=m) (we:Nat.blt m l.length=true) (dP:fq l 0=true) (fa:uU l m q d=true)
  (hq:l[q]? =some oq) (IP:oq.dst=some d) (ZF:jX oq.op=true) (UN:oq.guard=none) (hS:S[q]? =some (cj.eq c)) (iz:∀(ρ:Operand->Value) w,(∀x u,ev (kq l q L) x=some u->ρ x=u)->(∀g∈Gs,g.2.2 (ρ (.tmp g.2.1)))->(execOp ρ oq).run P w= .ok (.value c) w)
  (hG:∀g∈Gs,∃o s,l[g.1]? =some o/\o.dst=some g.2.1/\g.1<m/\g.1≠q/\S[g.1]? =some s/\∀v w,s.p v w->g.2.2 v) (qC:∀p∈F,∀b,p.2 b->M b) (hFq:∀p∈F,p.1≠q) (xH:ES F l S) (hY:bL P r n F wd l S ds L l S 0)
  (j1:∀w',Step M wd M w' (jP (F.map (·.2)))->iH w' (λacc=>ua P r n l.toArray aC w' K 0 (l.drop m) (acc++kq l l.length L) ds w') l S []):jH P r n l L ds wd K:=by
 intro a0 ha;obtain⟨hqm,Od,BC,rW⟩:=xY fa;have aeH:m<l.length:=by simpa[Nat.blt_eq]using we
 have start:∀(D:Nat->Prop) a w,(∀i,i<m->i≠q->D i)->(∀i,m<=i->i<l.length->¬D i)->(∀i o,l[i]? =some o->D i->∀k∈dg o,D k)->Inv F S l wd L ds n (λi=>D i/\i<l.length) a w->∃p ac Lp wq,TJ P r n l m q d c Gs L K ds D a w p ac Lp wq:=by
  intro D a w gD jt km hi
  obtain⟨ac,KC⟩:∃ac,(D q->a=ac)/\(¬D q->ac=a.put (some d) c):=by
   by_cases hD:D q
   ·exact⟨a,λ_=>G,λh=>absurd hD h⟩
   ·exact⟨_,λh=>absurd h hD,λ_=>G⟩
  have hqn:d<n\/n<=d:=cH d n
  have lC:n<=ac.tmps.size:=by
   by_cases hD:D q
   ·rw[<-KC.1 hD];exact hi.size
   ·rw[KC.2 hD,nY];exact hi.size
  have hdf:ac.defers=ds:=by
   by_cases hD:D q
   ·rw[<-KC.1 hD];exact hi.defers
   ·rw[KC.2 hD,put_defers];exact hi.defers
  have QP:∀t,t≠d->ac.tmps[t]? =a.tmps[t]? :=λt ht=>by
   by_cases hD:D q
   ·rw[<-KC.1 hD]
   ·rw[KC.2 hD,CH a c ht]
  have amQ:d<a.tmps.size:=by
   have hg:=hY.take.get q oq (by rw[dm,XC,if_pos hqm];exact hq);by_cases hD:D q
   ·obtain⟨v,h1,_⟩:=hi.done q oq (cj.eq c) d hq hS ⟨hD,by omega⟩ IP;exact(Array.getElem?_eq_some_iff.1 h1).1
   ·refine Classical.byContradiction λtS=> ?_
    obtain⟨s,hs,aeI⟩:=hg;rw[nQ]at aeI;rw[hS]at hs;cases hs
    have hpq:∀k∈dg oq,D k:=λk hk=>by
     have:=dM dP q oq hq k hk;exact gD k q0 q0
    have:=Inv.next (r:=r) (P:=P) hi dP xH qC (rest:=[]) (Q:=λ_ a' _=>n<=a'.tmps.size/\∃v,a'.tmps[d]? =some v) ⟨cj.eq c,hS,aeI⟩ hq (λh=>hD h.1) (λk hk=>⟨hpq k hk,by have:=dM dP q oq hq k hk;omega⟩) (λa' w' k9=>by
     obtain⟨v,h1,_⟩:=k9.done q oq (cj.eq c) d hq hS (.inl rfl) IP;exact⟨k9.size,v,h1⟩)
    have sN:One P r l.toArray w oq a c:=by
     unfold One;rw[if_pos (by simp[Region.wanted,UN])]
     refine iz a.eval w (λx u hx=>?_) (λg hg=>by
      obtain⟨o,s,g1,g2,g3,g4,g5,g6⟩:=hG g hg;obtain⟨v,h1,h2⟩:=hi.done _ o s _ g1 g5 ⟨gD _ g3 g4,by omega⟩ g2;simpa[Act.eval,h1]using g6 _ _ h2)
     have lg:∀t u,lk (kq l q L) t=some u->a.tmps[t]? =some u:=λt u ht=>by
      obtain⟨h3,h4⟩:=j7 (f:=lh l q) ht;refine hi.base t u h4 λi o iM EA he=> ?_
      simp only[lh,dZ]at h3;have:=h3 o (av iM);simp only[he,beq_self_eq_true,Bool.not_true,Bool.false_or,gj]at this;exact hD (km i o iM EA.1 q this)
     cases x with
     |tmp t=>simp only[ev]at hx;simp[Act.eval,lg t u hx]
     |const v=>simp only[ev]at hx;cases hx;rfl
     |global g=>simp only[ev]at hx;cases hx;rfl
     |func f=>simp only[ev]at hx;cases hx;rfl
    simp only[wpOpsIn,iy,hq]at this;rw[if_pos (by simp[Region.wanted,UN])]at this;obtain⟨_,h2⟩:=this;unfold One at sN;rw[if_pos (by simp[Region.wanted,UN])]at sN;rw[Oper.semAt_eq _ _ _ (my ZF),sN]at h2;rw[Oper.uponIn_value]at h2;obtain⟨_,v,h3⟩:=h2;rw[IP]at h3;have:=(Array.getElem?_eq_some_iff.1 h3).1;simp[Act.put]at this;exact tS this
  have amR:∃v,ac.tmps[d]? =some v/\v=c:=by
   by_cases hD:D q
   ·rw[<-KC.1 hD];obtain⟨v,h1,h2⟩:=hi.done q oq (cj.eq c) d hq hS ⟨hD,by omega⟩ IP;exact⟨v,h1,h2⟩
   ·refine⟨c,?_,G⟩;rw[KC.2 hD,ib,if_pos rfl];simp[dH,amQ]
  have iW:∀{i:Nat} {o:Oper},(l.take m)[i]? =some o->l[i]? =some o/\i<m:=λ{i o} h=>by
   rw[dm]at h
   split at h
   ·exact⟨h,by assumption⟩
   ·cases h
  have jT:Step M wd M w (jP (F.map (·.2))):=hi.step.eI (λb ⟨p,hp,hD,hb⟩=>fR.2 ⟨p.2,cA.2 ⟨p,hp,rfl⟩,hb⟩) (λb hb=>by
   obtain⟨N,hN,Ez⟩:=fR.1 hb;obtain⟨p,hp,rfl⟩:=cA.1 hN;exact qC p hp b Ez)
  have hE:=(j1 w jT).take;rw[XC]at hE
  obtain⟨acc,h1,h2⟩:=iH.use (a:=ac) (l.take m) S [] (λi o s h1 h2 h3=>by
    obtain⟨h4,h5⟩:=iW h1;by_cases WD:i=q
    ·subst WD;rw[hq]at h4;cases h4;rw[IP]at h3;cases h3
    ·exact hi.fin i o s h4 h2 ⟨gD i h5 WD,by omega⟩ h3)
   (λi o s e h1 h2 h3=>by
    obtain⟨h4,h5⟩:=iW h1;by_cases WD:i=q
    ·subst WD;rw[hq]at h4;cases h4;rw[IP]at h3;cases h3;rw[hS]at h2;cases h2;exact amR
    ·obtain⟨v,h6,h7⟩:=hi.done i o s e h4 h2 ⟨gD i h5 WD,by omega⟩ h3;exact⟨v,by rw[QP e (λhe=>WD (fS dP h4 hq h3 (by rw[IP,he])))];exact h6,h7⟩)
   (λt v h=>by simp[lk]at h) hE
  refine⟨m,ac,_,w,bz _,by omega,λi h3 h4=>⟨λh=>?_,λh=>gD i h h4⟩,⟨lC,hdf,λt v h=>?_⟩,h1,KC.1,λhD=>⟨KC.2 hD,λt u ht=>?_⟩,λhD g hg=>by
   obtain⟨o,s,g1,g2,g3,g4,g5,g6⟩:=hG g hg;obtain⟨v,h1,h2⟩:=hi.done _ o s _ g1 g5 ⟨gD _ g3 g4,by omega⟩ g2;exact⟨v,h1,g6 _ _ h2⟩⟩
  ·rcases cH i m with h5|h5
   ·exact h5
   ·exact absurd h (jt i h5 h3)
  ·rcases l2 h with h|h
   ·exact h2 t v h
   ·obtain⟨h3,h4⟩:=j7 (f:=lh l l.length) h
    have fw:∀(i:Nat) (o:Oper),l[i]? =some o->o.dst≠some t:=λi o iM he=>by
     simp only[lh,dZ]at h3;have:=h3 o (av iM);simp only[he,beq_self_eq_true,Bool.not_true,Bool.false_or,gj]at this;have h7:=dM dP i o iM _ this;have h8:=(an.1 iM).1;omega
    rw[QP t (λe=>fw q oq hq (by rw[IP,e]))];exact hi.base t v h4 λi o iM _=>fw i o iM
  ·obtain⟨h3,h4⟩:=j7 (f:=lh l q) ht;refine hi.base t u h4 λi o iM EA he=> ?_
   simp only[lh,dZ]at h3;have:=h3 o (av iM);simp only[he,beq_self_eq_true,Bool.not_true,Bool.false_or,gj]at this;exact hD (km i o iM EA.1 q this)
 refine⟨λD a w=>((∀i,m<=i->i<l.length->¬D i)/\Inv F S l wd L ds n (λi=>D i/\i<l.length) a w)\/∃p ac Lp wq,TJ P r n l m q d c Gs L K ds D a w p ac Lp wq,λD D' a w hJ hD=>?_,λQ D a w j o rest hj ho nW hp km hJ hk=>?_,λa w hJ=>?_,.inl ⟨λi _ _ h=>h,?_⟩⟩
 ·rcases hJ with⟨h1,h2⟩|⟨p,ac,Lp,wq,h⟩
  ·refine .inl ⟨λi h3 h4 h5=>h1 i h3 h4 ((hD i h4).1 h5),?_⟩;have:(λi=>D' i/\i<l.length)=λi=>D i/\i<l.length:=funext λi=>propext ⟨fun⟨h3,h4⟩=>⟨(hD i h4).1 h3,h4⟩,fun⟨h3,h4⟩=>⟨(hD i h4).2 h3,h4⟩⟩
   rw[this];exact h2
  ·exact .inr ⟨p,ac,Lp,wq,h.p0,h.p1,λi h3 h4=>(hD i h3).trans (h.dt i h3 h4),h.ag,h.tr,λh3=>h.yes ((hD q q0).1 h3),λh3=>h.no λh4=>h3 ((hD q q0).2 h4),λh3=>h.fl λh4=>h3 ((hD q q0).2 h4)⟩
 ·rcases hJ with⟨h1,h2⟩|⟨p,ac,Lp,wq,h⟩
  ·rcases cH j m with Hu|Hu
   ·have hg:=hY.take.get j o (by rw[dm,XC,if_pos Hu];exact ho);rw[nQ]at hg;refine h2.next dP xH qC hg ho (λh=>nW h.1) (λk qa=>⟨hp k qa,by have:=dM dP j o ho k qa;omega⟩) λa' w' k9=>hk a' w' (.inl ⟨λi h3 h4 h5=>?_,?_⟩)
    ·rcases h5 with h5|h5
     ·omega
     ·exact h1 i h3 h4 h5
    ·have:(λi=>(i=j\/D i)/\i<l.length)=λi=>i=j\/D i/\i<l.length:=funext λi=>propext ⟨fun⟨h3,h4⟩=>h3.elim .inl λh=> .inr ⟨h,h4⟩,λh=>h.elim (λh=>⟨.inl h,by omega⟩) λh=>⟨.inr h.1,h.2⟩⟩
     rw[this];exact k9
   ·have amS:j=m:=by
     rcases cH m j with h|h
     ·have:=hp _ (mq BC (j:=j) q0 ho);exact absurd this (h1 (j-1) q0 q0)
     ·omega
    subst amS;rw[ho]at Od;obtain⟨p,ac,Lp,wq,h⟩:=start D a w (λi hi WD=>nt (D:=D) km j (dg o) Od hp i hi (by simpa using WD)) h1 km h2;exact h.next (λg hg=>by obtain⟨o,s,g1,g2,g3,_⟩:=hG g hg;exact⟨o,g1,g2,g3⟩) dP fa hq IP ZF UN iz ho nW hp λa' w' h'=>hk a' w' (.inr h')
  ·exact h.next (λg hg=>by obtain⟨o,s,g1,g2,g3,_⟩:=hG g hg;exact⟨o,g1,g2,g3⟩) dP fa hq IP ZF UN iz ho nW hp λa' w' h'=>hk a' w' (.inr h')
 ·rcases hJ with⟨h1,_⟩|⟨p,ac,Lp,wq,h⟩
  ·exact absurd aeH (h1 m (bz _) aeH)
  ·have yI:p=l.length:=by
    rcases cH p l.length with h3|h3
    ·have h4:=(h.dt p h3 (by have:=h.p0;omega)).1 h3;omega
    ·have:=h.p1;omega
   have Cc:=h.tr;rw[yI,List.drop_length]at Cc;exact⟨Lp,ds,by rw[h.yes (by show q<l.length;omega)];exact h.ag,Cc⟩
 ·refine⟨(Step.refl M wd).eI a30 (λb ⟨p,hp,_,hb⟩=>qC p hp b hb),λi o s _ _ h=>h.1.elim,ha.size,ha.defers,λi o s e _ _ h=>h.1.elim,λt v h _=>ha.at_ t v h,λi o _ h=>h.1.elim⟩
theorem T.WE {id:Nat} {l l':List Oper} (π:List Nat) (m q d:Nat) (c:Value) {oq:Oper} (F:List (Nat×aM)) (S:List (cj M)) (Gs:List (Nat×Nat×(Value->Prop))) (hm:P.follows .mixedOrders=true) (Of:Cd π l=l') (xI:fq l 0=true) (hπ:mB π l.length=true) (XC:S.length=m) (we:Nat.blt m l'.length=true) (dP:fq l' 0=true) (fa:uU l' m q d=true)
  (hq:l'[q]? =some oq) (IP:oq.dst=some d) (ZF:jX oq.op=true) (UN:oq.guard=none) (hS:S[q]? =some (cj.eq c)) (iz:∀(ρ:Operand->Value) w,(∀x u,ev (kq l' q L) x=some u->ρ x=u)->(∀g∈Gs,g.2.2 (ρ (.tmp g.2.1)))->(execOp ρ oq).run P w= .ok (.value c) w)
  (hG:∀g∈Gs,∃o s,l'[g.1]? =some o/\o.dst=some g.2.1/\g.1<m/\g.1≠q/\S[g.1]? =some s/\∀v w,s.p v w->g.2.2 v) (qC:∀p∈F,∀b,p.2 b->M b) (hFq:∀p∈F,p.1≠q) (xH:ES F l' S)
  (h:∀wD,(∀M,Step M w M wD aC)->bL P r n F wD l' S ds L l' S 0/\∀w',Step M wD M w' (jP (F.map (·.2)))->iH w' (λacc=>ua P r n l'.toArray aC w' K 0 (l'.drop m) (acc++kq l' l'.length L) ds w') l' S []):T P r n (.region id l.toArray true) L ds w K:=by
 subst Of;exact jH.t hm xI λwD hD=> .perm π hπ xI (.ZG m q d c F S Gs XC we dP fa hq IP ZF UN hS iz hG qC hFq xH (h wD hD).1 (h wD hD).2)
theorem IS {s:TypeId} {fs:Array Field} {fd:Field} {j size o o' b:Nat} {zv:Value} {bytes:Nat} {x:Operand} {dst:Option Tmp} {ty:TypeId} {pos:String} {af:Array Edge} {gd:Option (Nat×Bool)} (hu:P.underlying s=some (.struct fs)) (Xp:fs[j]? =some fd) (ho:o+fd.offset=o') (hi:TI P fd.type zv size bytes) (hs:size≠0)
  {ρ:Operand->Value} (hx:ρ x= .pointer (some ⟨b,o,none⟩)) (w:World):(execOp ρ {dst,op:= .fieldAddr s x j,type:=ty,pos,after:=af,guard:=gd}).run P w= .ok (.value (.pointer (some ⟨b,o',none⟩))) w:=by
 simp only[execOp,hx];simp[Instr.fieldAt,run_underlying hu,Xp,Instr.sureAddr,fieldPlace,hi.sizeOf,hs,<-ho,Addr.add_mid]
end
open Go.Proofs
set_option maxRecDepth 10000
def nA:Int->List En->Int
 |last,[]=>last
 |_,e::L=>nA e.2 L
def BW:Int->List En->Bool
 |_,[]=>true
 |last,e::L=>decide (oJ last e=0)&&BW e.2 L
theorem QQ:∀{L:List En} {last:Int} {i:Nat} {e:En},BW last L=true->L[i]? =some e->oJ (nA last (L.take i)) e=0/\nA last (L.take (i+1))=e.2
 |[],_,_,_,_,h=>by simp at h
 |x::L,last,0,e,h,hi=>by
  simp only[BW,cz,decide_eq_true_eq]at h;simp at hi;subst hi;exact⟨by simpa[nA]using h.1,by simp[nA]⟩
 |x::L,last,i+1,e,h,hi=>by
  simp only[BW,cz,decide_eq_true_eq]at h;have:=QQ h.2 ah6;simpa[nA]using this
theorem CI {last:Int} {e:En} (h:oJ last e=0):iQ e.1/\last<e.2:=by
 unfold oJ at h
 split at h
 ·rename_i h1;exact absurd h h1
 ·rename_i h1
  split at h
  ·cases h
  ·exact⟨Ko (by simpa using h1),by omega⟩
theorem kB:∀{L:List En} {last:Int},BW last L=true->∀e∈L,iQ e.1
 |[],_,_,e,h=>by cases h
 |x::L,last,h,e,he=>by
  simp only[BW,cz,decide_eq_true_eq]at h;rcases du.1 he with rfl|he
  ·exact(CI h.1).1
  ·exact kB h.2 e he
theorem CJ:∀{L:List En} {last:Int},BW last L=true->gm last (L.map (·.2))=true
 |[],_,_=>rfl
 |x::L,last,h=>by
  simp only[BW,cz,decide_eq_true_eq]at h;simp only[eV,gm,cz,decide_eq_true_eq];exact⟨(CI h.1).2,CJ h.2⟩
def jB (L:List En):Pa:=(L.map (·.1.1),L.map (·.2),keysOf L,(keysOf L).map (pk L))
theorem Mm {x:List Po} (h:x≠[]):∃p∈x,Gr x=p.1:=by
 unfold Gr
 cases hl:x.getLast? with
 |none=>exact absurd (List.getLast?_eq_none_iff.1 hl) h
 |some p=>exact⟨p,List.mem_of_getLast? hl,rfl⟩
theorem ZH {L:List En} (h:BW (-1) L=true) (hn:L.length<=1000000):Bw (jB L)=true:=by
 have hF:=kB h;have h1:(keysOf L).map (pk L)=(jB L).2.2.2:=rfl;unfold Bw;have e1:decide ((jB L).1.length=(jB L).2.1.length)=true:=by simp[jB]
 have e2:gm (-1) (jB L).2.1=true:=CJ h;have e3:decide ((jB L).2.2.1.length=(jB L).2.2.2.length)=true:=by simp[jB]
 have e4:Gh none (jB L).2.2.1=true:=Zg (pD L)
 have e5:(jB L).2.2.2.all (λx=> !nG ((jB L).1.length:Int) x)=true:=by
  refine dZ.2 λx hx=> ?_
  rw[<-h1]at hx;obtain⟨k,hk,rfl⟩:=cA.1 hx;have fw:pk L k≠[]:=PO 0 (mO.1 hk)
  have amT:(pk L k).isEmpty=false:=by
   cases h:pk L k with
   |nil=>exact absurd h fw
   |cons a b=>rfl
  have uO:eP (-1) (pk L k)=true:=yO k L 0 (-1) hF q0 q0;obtain⟨p,hp,hl⟩:=Mm fw;have:=(wW k L 0 hF).2 p hp;have hlen:((jB L).1.length:Int)=L.length:=by simp[jB]
  simp only[nG,uO,amT,hlen,hl];rw[decide_eq_false q0];rfl
 rw[e1,e2,e3,e4,e5];rfl
theorem UO {L:List En} (hF:∀e∈L,iQ e.1) (hn:L.length<=1000000) (k:List UInt8):Room (pk L k):=by
 have h1:=wW k L 0 hF;have uO:eP (-1) (pk L k)=true:=yO k L 0 (-1) hF q0 q0;have sO:∀p∈pk L k,p.2.length<=500:=λp hp=>(h1.2 p hp).2.2
 obtain⟨h2,h3⟩:=wY (pk L k) (-1) 500 q0 uO sO q0;have hl:(pk L k).length<=L.length:=h1.1;exact⟨λp hp=>by have:=sO p hp;omega,by omega,by omega,by omega⟩
theorem UP {L:List En} (hF:∀e∈L,iQ e.1) (hn:L.length<=1000000):QK (jB L):=by
 have hk:(keysOf L).length<=500000000:=by
  have h1:=(pD L).nodup.length_le_of_subset (l₂:=jM L) (λx hx=>mO.1 hx);have:=xc hF;omega
 refine ⟨by simp[jB];omega,by simp[jB];omega,by simp only[jB];omega,by simp[jB];omega,λx hx=> ?_⟩;obtain⟨k,_,rfl⟩:=cA.1 hx;exact UO hF hn k
theorem ZI {M:aM} {w:World} {e:En} {v:Value} (h:RT.en.V M w e v):(-9223372036854775808<=e.1.1/\e.1.1<=9223372036854775807)/\ -9223372036854775808<=e.2/\e.2<=9223372036854775807:=by
 obtain⟨vs,⟨va,vb,_,⟨vc,vd,_,⟨_,h1⟩,_⟩,⟨_,h2⟩⟩,_⟩:=h;exact⟨h1,h2⟩
def ZP (B b:Nat) (vi vs:Value):aM:=λk=>B<=k/\k≠b/\vi.ownBlock≠some k/\vs.ownBlock≠some k
theorem Own.WG {κ:IntKind} {e:TypeId} {M M' N:aM} {w w':World} {base:Nat} {v:Value} {xs:List Int} (h:Own (RT.int κ) e (rN v) w base v xs) (s:Step M w M' w' N) (hn:∀c,v.ownBlock=some c->¬N c):Own (RT.int κ) e (rN v) w' base v xs:=
 ((h.TP (M':=allM) (λ_ _=>trivial)).acw s.all hn).lone
theorem Step.amU {M M' N:aM} {w w':World} (s:Step M w M' w' N) {v:Value} (hv:∀b,v.ownBlock=some b->b<w'.heap.size/\(w.heap.size<=b\/M' b)):Step M w (mh M' v) w' N:=
 ⟨λh k hk=>hk.elim (λh1=>(hv k h1).1) (λh1=>s.lt h k h1),s.os,s.tape,s.output,s.size,λk hk=>⟨λh=>by
  rcases h with h|h
  ·rcases(hv k h).2 with h1|h1
   ·omega
   ·exact(s.mem k hk).1 h1
  ·exact(s.mem k hk).1 h,λh=> .inr ((s.mem k hk).2 h)⟩,s.same,s.sub⟩
namespace TKSegA
theorem aeJ:Enters Tryz.prog 159:=enters Tryz.func159 rfl Tg
theorem aeK:Enters Tryz.prog 160:=enters Tryz.func160 rfl Tg
theorem aeL:Enters Tryz.prog 201:=enters Tryz.func201 rfl Tg
end TKSegA
open TKSegA
set_option maxRecDepth 10000
theorem Mn {M:aM} {s:Se} {v0:Value} (w0:World) (hs:cO RT.se M w0 v0 s):
  Spec Tryz.prog 108 #[v0] w0 (λv w=>v= .int .i64 (s.1.length:Int)/\w=w0):=by
 refine bh (args:=[_]) (fn:=Tryz.f108) Tryz.func108 G (n:=8) Tryz.ntmps108 (T.aQ (Rg.aZ G G (T.aQ (ab G G (bm G hs.mC G ?_)))));refine ao (A:=RT.se) (B:=(RT.int .i64).sl) Tryz.underlying215 G G qc Tg se0 G G Tg hs bS (λYW F8=>?_);refine bB az G G G G G F8 bS (λaeM KD=>?_);replace KD:((RT.int .i64).sl).V M _ s.1 aeM:=KD;refine bC az G KD G (Rg.aZ G G (aJ ?_));exact am3
theorem Ay {α:Type} {p:α->Bool}:∀{xs:List α} {i:Nat},i<=xs.length->(∀(k:Nat) x,k<i->xs[k]? =some x->p x=true)->(∀(k:Nat) x,i<=k->xs[k]? =some x->p x=false)->xs.countP p=i
 |[],i,hi,_,_=>by simp at hi;simp[hi]
 |x::xs,0,_,_,h2=>by
  rw[List.countP_eq_zero.2];intro a ha;obtain⟨k,hk⟩:=bK.1 ha;simp[h2 k a (a8 _) hk]
 |x::xs,i+1,hi,h1,h2=>by
  rw[List.countP_cons_of_pos (h1 0 x q0 rfl),Ay ah6 (λk y hk hy=>h1 (k+1) y q0 (by simpa using hy)) (λk y hk hy=>h2 (k+1) y q0 (by simpa using hy))]
end Go.K
namespace Go.K
open Go.Proofs
namespace TKSegB
theorem Mh:TI Tryz.prog 249 (.slice none 0 0) 1 24:=by unfold TI;kernel_rfl
theorem amV:Enters Tryz.prog 271:=enters Tryz.func271 rfl Tg
theorem amW:Enters Tryz.prog 301:=enters Tryz.func301 rfl Tg
theorem amX:Enters Tryz.prog 302:=enters Tryz.func302 rfl Tg
end TKSegB
open TKSegB
set_option maxRecDepth 10000
def NF (ns:List (List UInt8)) (k:List UInt8):Nat:=ns.countP λx=>decide (x<k)
theorem aeN {ns:List (List UInt8)} (h:Io ns) {i j:Nat} {x y:List UInt8} (jr:i<=j) (hx:ns[i]? =some x) (hy:ns[j]? =some y): ¬y<x:=by
 rcases qx jr with rfl|h1
 ·rw[hx]at hy;cases hy;exact kz x
 ·exact kA (iD h hx hy h1)
theorem D4 {ns:List (List UInt8)} (h:Io ns) {k:List UInt8}:(k∈ns->ns[NF ns k]? =some k)/\∀x,ns[NF ns k]? =some x->¬x<k:=by
 have key:∀{ns:List (List UInt8)},Io ns->(k∈ns->ns[NF ns k]? =some k)/\∀x,ns[NF ns k]? =some x->¬x<k:=by
  intro ns
  induction ns with
  |nil=>exact λ_=>⟨(λh=>by cases h),λx h=>by simp at h⟩
  |cons y ns ih=>
   intro h;have h':=jO.1 h;by_cases hy:y<k
   ·have e:NF (y::ns) k=NF ns k+1:=by unfold NF;rw[List.countP_cons_of_pos (by simpa using hy)]
    rw[e];simp only[List.getElem?_cons_succ];refine⟨λhk=>(ih h'.2).1 ?_,(ih h'.2).2⟩;rcases du.1 hk with rfl|hk
    ·exact absurd hy (kz _)
    ·exact hk
   ·have gD:∀x∈ns,¬x<k:=λx hx eZ=>hy (oH (h'.1 x hx) eZ)
    have e:NF (y::ns) k=0:=by
     unfold NF;rw[List.countP_eq_zero];intro a ha;rcases du.1 ha with rfl|ha
     ·simpa using hy
     ·simpa using gD a ha
    rw[e];refine⟨λhk=>?_,λx hx=>by simp at hx;subst hx;exact hy⟩;rcases du.1 hk with rfl|hk
    ·rfl
    ·exact absurd (h'.1 k hk) hy
 exact key h
def geN (ns:List (List UInt8)) (k:List UInt8) (i:Nat):Bool:=match ns[i]? with|some x=> !decide (x<k)|none=>true
theorem Az {ns:List (List UInt8)} {k x:List UInt8} {i:Nat} (h:ns[i]? =some x):geN ns k i= !decide (x<k):=by unfold geN;rw[h]
theorem QR {ns:List (List UInt8)} (h:Io ns) {k:List UInt8}:ns[NF ns k]? =some k↔k∈ns:=⟨λh=>av h,(D4 h).1⟩
theorem IT {M:aM} {n:Nat} {g:FuncId} {cap:List Value} {good:Nat->Bool} (w0:World) (hg:Enters Tryz.prog g) (WH:∀i j,i<=j->j<n->good i=true->good j=true) (hn:n<=4611686018427387904) (ht:∀(i:Nat) w,i<n->Step M w0 M w aC->Spec Tryz.prog g ([.int .i64 (i:Int)]++cap:List Value).toArray w (λv w'=>v= .bool (good i)/\Step M w M w' aC)):
  Spec Tryz.prog 301 #[.int .i64 (n:Int),.func (.func g) #[] cap.toArray] w0 (λv w=>∃m:Nat,v= .int .i64 (m:Int)/\m<=n/\(∀i,i<m->good i=false)/\(∀i,m<=i->i<n->good i=true)/\Step M w0 M w aC):=by
 refine bh (args:=[_,_]) (fn:=Tryz.f301) Tryz.func301 G (n:=23) Tryz.ntmps301 (T.aQ (Rg.aZ G G (T.aQ (Rg.aZ G G (aL (aX ?_))))));refine dd (σ:=Nat×Nat) (λq=>[(0,.int .i64 (q.2:Int)),(1,.func (.func g) #[] cap.toArray),(5,.int .i64 (q.1:Int))]) (λq w=>Step M w0 M w aC/\q.1<=q.2/\q.2<=n/\(∀i,i<q.1->good i=false)/\(∀i,q.2<=i->i<n->good i=true)) (λq=>q.2-q.1) (0,n) a07 ?_ ?_
 ·exact⟨aV,a8 _,bz _,λi h=>absurd h (ec _),λi h h'=>by omega⟩
 ·rintro⟨i,j⟩ w ⟨S,jr,hj,h1,h2⟩;dsimp only at jr hj h1 h2 ⊢;refine aL (T.aQ (ab G G (ab G G (cx G G G (ad ?_)))));refine bE G (λc2=>?_) (λc2=>?_)
  ·refine aS (aX (T.aQ (ab G G (ab G G (ab G G (jR G G G q0 (Rg.yq G G G q0 (bu G G G q0 (bg (v':= .int .i64 ((i+(j-i)/2:Nat):Int)) (congrArg _ q0) (aN G G ?_))))))))));refine ad (T.aQ (ab G G (ab G G ?_)));refine oS (first:=[]) (captured:=cap) (xs:=[.tmp 17]) G G G hg (vs:=[.int .i64 ((i+(j-i)/2:Nat):Int)]) (ht (i+(j-i)/2) _ q0 S) (λr4 w4 hc=>?_);obtain⟨rfl,s4⟩:=hc;refine bg (v':= .bool (decide (good (i+(j-i)/2)=true))) (by simp) ?_;replace S:=S.aw s4;refine ad ?_;refine bE G (λc4=>?_) (λc4=>?_)
   ·refine aH (ab G G (Rg.aZ G G ?_));refine⟨G,(i,i+(j-i)/2),a07,?_,?_⟩
    ·exact⟨S,by dsimp only;omega,by dsimp only;omega,h1,λk hk hkn=>WH _ _ hk hkn c4⟩
    ·dsimp only;omega
   ·refine aH (ab G G (bu G G G q0 (Rg.aZ G G ?_)));refine⟨G,(i+(j-i)/2+1,j),a07,?_,?_⟩
    ·exact⟨S,by dsimp only;omega,hj,λk hk=>by
      cases h:good k with
      |false=>rfl
      |true=>exact absurd (WH k (i+(j-i)/2) (by dsimp only at hk;omega) q0 h) c4,h2⟩
    ·dsimp only;omega
  ·refine cN (T.aQ (ab G G (Rg.aZ G G (aJ ?_))));have e:i=j:=by omega
   subst e;exact aK G G ⟨i,G,hj,h1,h2,S⟩
theorem Gv {M:aM} {d:Di} {v0:Value} {i bd bk:Nat} {k x:List UInt8} (w0:World) (hd:cO RT.di M w0 v0 d) (gd:w0.heap[bd]? =some (.cells #[v0] 213 (0,0))) (gk:w0.heap[bk]? =some (.cells #[sv k] 9 (0,0))) (hx:d.1[i]? =some x):
  Spec Tryz.prog 302 #[.int .i64 (i:Int),.pointer (some ⟨bd,0,none⟩),.pointer (some ⟨bk,0,none⟩)] w0 (λv w=>v= .bool (!decide (x<k))/\Step M w0 M w aC):=by
 have hM:True:=trivial;refine bh (args:=[_,_,_]) (fn:=Tryz.f302) Tryz.func302 G (n:=14) Tryz.ntmps302 (T.aQ (Rg.aZ G G (aL ?_)));apply vV mixed rfl rfl;intro LI OT;have mI:=OT M;replace gd:=mI.aF gd;replace gk:=mI.aF gk;replace hd:=hd.le Tg mI.le;refine aR Tryz.underlying213 G G G gd G (bg (v':=v0) G (Rg.dh (bm G hd.mC G (Rg.dh ?_))));refine ao (A:=RT.di) (B:=RT.str.sl) Tryz.underlying310 G G rA Tg di0 G G Tg hd bS (λpn UQ=>?_);refine Rg.dh ?_;refine bB ax G G G G G UQ bS (λvn yM=>?_);replace yM:(RT.str.sl).V M _ d.1 vn:=yM;refine Rg.dh (ab G G (Rg.dh ?_));have rL:=(an.1 hx).1;refine cC ax I9 G G G yM bS q0 (λu a hg hu=>?_);obtain rfl:x=a:=aI (hx.symm.trans (by simpa using hg));refine Rg.dh ?_;refine bB aA G G G G G hu bS (λvx zV=>?_);obtain rfl:=dS zV;refine Rg.dh (aR aA G G G gk G (bg (v':=sv k) G (Rg.dh (Rg.YR G G G (Rg.dh (aN G G (Rg.dh (fL (aJ ?_)))))))));exact aK rfl rfl ⟨by rw[decide_not],mI⟩
theorem IU {M:aM} {d:Di} {v0:Value} {k:List UInt8} (w0:World) (hM:Lt M w0) (hd:cO RT.di M w0 v0 d) (QS:Io d.1):
  Spec Tryz.prog 271 #[v0,sv k] w0 (λv w=>v= .tuple #[.int .i64 (NF d.1 k:Int),.bool (decide (k∈d.1))]/\Step M w0 M w aC):=by
 refine bh (args:=[_,_]) (fn:=Tryz.f271) Tryz.func271 G (n:=33) Tryz.ntmps271 ?_;have S:Step M w0 M w0 aC:=aV;refine T.aQ ?_;refine nS M G G (λIV aeO amZ am0 ni AA=>?_);replace ni:aeO.heap[IV]? =some (.cells #[v0] 213 (0,0)):=by rw[CD hd]at ni;exact ni
 obtain⟨Gw,AB⟩:∃M',M'=ins M IV:=⟨_,rfl⟩;rw[<-AB]at AA;have pM:Gw IV:=by rw[AB];exact .inl G
 replace hd:=hd.le Tg AA.le;replace hM:=AA.lt hM;have:=S.size;replace S:=S.aw AA;refine nS Gw G G (λgu tv H8 H9 cG iG=>?_);obtain⟨fu,gI⟩:∃M',M'=ins Gw gu:=⟨_,rfl⟩;rw[<-gI]at iG;have b9:fu gu:=by rw[gI];exact .inl G
 change tv.heap[gu]? =some (.cells #[sv k] _ _)at cG;have:=ae ni;replace pM:=(iG.mem _ this).2 pM;replace ni:=iG.aF ni;replace hd:=hd.le Tg iG.le;replace hM:=iG.lt hM;have:=S.size;replace S:=S.aw iG;refine aN G G (Rg.aZ G G (T.aQ (aR Tryz.underlying213 G G G ni G (bg (v':=v0) G (bm G hd.mC G ?_)))));refine ao (A:=RT.di) (B:=RT.str.sl) Tryz.underlying310 G G rA Tg di0 G G Tg hd bS (λpn UQ=>?_);refine bB ax G G G G G UQ bS (λvn yM=>?_);replace yM:(RT.str.sl).V fu _ d.1 vn:=yM;have hnl:=cU yM;refine bC ax G yM G (iS (xs:=[]) (ys:=[.tmp 2,.tmp 3]) G G G ?_)
 refine aP G G amW (IT (M:=fu) (n:=d.1.length) (cap:=[.pointer (some ⟨IV,0,none⟩),.pointer (some ⟨gu,0,none⟩)]) (good:=geN d.1 k) _ amX (λi j jr hj h=>by
  have hi:=aq (show i<d.1.length by omega);have wu:=aq hj;rw[Az hi]at h;rw[Az wu];simp only[sJ,decide_eq_false_iff_not]at h ⊢;intro eZ;rcases ny d.1[i] d.1[j]with h1|h1|h1
  ·exact h (oH h1 eZ)
  ·rw[h1]at h;exact h eZ
  ·exact aeN QS jr hi wu h1) q0 (λi w hi s=>by
  have hx:=aq hi;rw[Az hx];exact Gv w (hd.le Tg s.le) (s.aF ni) (s.aF cG) hx)) (λr1 w1 hc=>?_)
 obtain⟨m,rfl,hm,hlo,hhi,s1⟩:=hc;have em:NF d.1 k=m:=Ay hm (λi x hi hx=>by have:=hlo i hi;rw[Az hx]at this;simpa using this) (λi x hi hx=>by have:=hhi i hi (an.1 hx).1;rw[Az hx]at this;simpa using this);have:=ae ni;replace pM:=(s1.mem _ this).2 pM;replace ni:=s1.aF ni;have:=ae cG;replace b9:=(s1.mem _ this).2 b9;replace cG:=s1.aF cG;replace hd:=hd.le Tg s1.le;replace hM:=s1.lt hM;have:=S.size;replace S:=S.aw s1;refine Rg.aZ G G (aL ?_);apply vV mixed rfl rfl;intro wD2 sA2;have ZJ:=sA2 fu;have:=ae ni;replace pM:=(ZJ.mem _ this).2 pM;replace ni:=ZJ.aF ni;have:=ae cG;replace b9:=(ZJ.mem _ this).2 b9;replace cG:=ZJ.aF cG;replace hd:=hd.le Tg ZJ.le;replace hM:=ZJ.lt hM;have:=S.size;replace S:=S.aw ZJ;refine ab G G (Rg.dh (ab G G (Rg.dh (aR Tryz.underlying213 G G G ni G (bg (v':=v0) G (Rg.dh (bm G hd.mC G (Rg.dh ?_))))))));refine ao (A:=RT.di) (B:=RT.str.sl) Tryz.underlying310 G G rA Tg di0 G G Tg hd bS (λpn2 am1=>?_);refine Rg.dh ?_;refine bB ax G G G G G am1 bS (λvn2 ZK=>?_);replace ZK:(RT.str.sl).V fu _ d.1 vn2:=ZK;refine Rg.dh (bC ax G ZK G (Rg.dh (cx G G G (Rg.dh (ab G G (Rg.dh ?_))))));refine aO (g:=22) G (λZL=>?_) (λZL=>?_)
 ·refine ah G G (aR Tryz.underlying213 G G G ni G (bg (v':=v0) G (Rg.dh (ah G G (bm G hd.mC G (Rg.dh (ah G G ?_)))))));refine ao (A:=RT.di) (B:=RT.str.sl) Tryz.underlying310 G G rA Tg di0 G G Tg hd bS (λpn3 am2=>?_);refine Rg.dh (ah G G ?_);refine bB ax G G G G G am2 bS (λvn3 ZM=>?_);replace ZM:(RT.str.sl).V fu _ d.1 vn3:=ZM;refine Rg.dh (ah G G (ab G G (Rg.dh (ah G G ?_))));refine cC ax I9 G G G ZM bS q0 (λu2 x hg2 dY=>?_);rw[ar]at hg2;refine Rg.dh (ah G G ?_);refine bB aA G G G G G dY bS (λvx zV=>?_);obtain rfl:=dS zV;refine Rg.dh (ah G G (aR aA G G G cG G (bg (v':=sv k) G (Rg.dh (ah G G (Rg.tT G G G (Rg.dh (aU G G G (Rg.dh (aN G G (Rg.dh ?_)))))))))));refine aN G G (Rg.dh (fL (aJ ?_)));rw[<-em]at*
  first
  |(have e:decide (x=k)=decide (k∈d.1):=decide_eq_decide.2 (by rw[<-QR QS,hg2];simp)
    exact fA rfl rfl rfl ⟨by rw[e],S.back⟩)
  |(have e:k∉d.1:=λh=>by have:=(D4 QS).1 h;have:=(an.1 this).1;omega
    exact fA rfl rfl rfl ⟨by rw[decide_eq_false e],S.back⟩)
 ·refine aj G G G G (Rg.dh (aj G G G G (Rg.dh (aj G G G G (Rg.dh (aj G G G G (Rg.dh (aj G G G G (Rg.dh (aj G G G G (Rg.dh ?_)))))))))));refine aj G G G G (Rg.dh (aj G G G G (Rg.dh (aj G G G G (Rg.dh (aB G G G (Rg.dh (aN G G (Rg.dh (aN G G (Rg.dh ?_)))))))))));refine fL (aJ ?_);rw[<-em]at*
  first
  |(have e:decide (x=k)=decide (k∈d.1):=decide_eq_decide.2 (by rw[<-QR QS,hg2];simp)
    exact fA rfl rfl rfl ⟨by rw[e],S.back⟩)
  |(have e:k∉d.1:=λh=>by have:=(D4 QS).1 h;have:=(an.1 this).1;omega
    exact fA rfl rfl rfl ⟨by rw[decide_eq_false e],S.back⟩)
theorem find_spec {M:aM} {d:Di} {v0:Value} {k:List UInt8} (w0:World) (hM:Lt M w0) (hd:cO RT.di M w0 v0 d) (QS:Io d.1) (hl:d.1.length=d.2.length):
  Spec Tryz.prog 218 #[v0,sv k] w0 (λv w=>Step M w0 M w aC/\((∃(j:Nat) (p:Value) (t:Li),v= .tuple #[p,.bool true]/\d.1[j]? =some k/\d.2[j]? =some t/\cO RT.li M w p t)\/(v= .tuple #[.pointer none,.bool false]/\k∉d.1))):=by
 refine bh (args:=[_,_]) (fn:=Tryz.f218) Tryz.func218 G (n:=25) Tryz.ntmps218 ?_;have S:Step M w0 M w0 aC:=aV;refine T.aQ (aN G G (Rg.aZ G G (T.aQ (ab G G (ab G G ?_)))));refine aP G G amV (IU _ hM hd QS) (λr1 w1 hc=>?_);obtain⟨rfl,s1⟩:=hc;replace hd:=hd.le Tg s1.le;replace hM:=s1.lt hM;have:=S.size;replace S:=S.aw s1;refine ab G G (cI G G G (cI G G G (aN G G (Rg.aZ G G (aL (T.aQ (ab G G (fV G G (bg (v':= .bool (decide (k∉d.1))) (by simp) ?_)))))))));refine ad ?_;refine bE G (λc2=>?_) (λc2=>?_)
 ·refine T.aQ (Rg.aZ G G (T.aQ (ab G G (aN G G (Rg.aZ G G (aJ ?_))))));exact fA G G G ⟨S,.inr ⟨G,c2⟩⟩
 ·refine aS (T.aQ (ab G G (bm G hd.mC G ?_)));refine ao (A:=RT.di) (B:=((RT.li).ptr).sl) Tryz.underlying310 G G Mh Tg di1 G G Tg hd bS (λpt hpt=>?_);refine bB fB G G G G G hpt bS (λvt hvt=>?_);replace hvt:(((RT.li).ptr).sl).V M _ d.2 vt:=hvt;refine ab G G ?_;have hk:=(D4 QS).1 (ck.1 c2);have zg:=(an.1 hk).1;refine cC fB ti G G G hvt bS q0 (λu5 t LG lP=>?_);rw[ar]at LG;refine bB dR G G G G G lP bS (λvp hvp=>?_);have am4:=Kr.1 hvp;refine aN G G (Rg.aZ G G (aJ ?_));exact fA G G G ⟨S,.inl ⟨_,_,t,G,hk,LG,am4⟩⟩
end Go.K
namespace Go.K
open Go.Proofs
set_option maxRecDepth 10000
def UR (ns:List (List UInt8)) (ls:List (List Po)) (k:List UInt8):List Po:=match (ns.zip ls).find? (λp=>decide (p.1=k))with|some p=>p.2|none=>[]
theorem QT {ns:List (List UInt8)} (hn:ns.Nodup) {ls:List (List Po)} {k:List UInt8} {j:Nat} {l:List Po} (h:ns[j]? =some k) (hl:ls[j]? =some l):UR ns ls k=l:=by
 have:∀{ns:List (List UInt8)} {ls:List (List Po)} {j:Nat},ns.Nodup->ns[j]? =some k->ls[j]? =some l->(ns.zip ls).find? (λp=>decide (p.1=k))=some (k,l):=by
  intro ns
  induction ns with
  |nil=>intro ls j _ h;simp at h
  |cons x ns ih=>
   intro ls j hn h hl
   cases ls with
   |nil=>simp at hl
   |cons y ls=>
    cases j with
    |zero=>simp at h hl;subst h;subst hl;simp
    |succ j=>
     have Nu:=List.nodup_cons.1 hn;have hk:k∈ns:=av a86;have hx:x≠k:=λe=>Nu.1 (by rw[e];exact hk)
     rw[List.zip_cons_cons,List.find?_cons_of_neg ad8];exact ih Nu.2 a86 (by simpa using hl)
 unfold UR;rw[this hn h hl]
theorem Gx {ns:List (List UInt8)} {ls:List (List Po)} {k:List UInt8} (h:k∉ns):UR ns ls k=[]:=by
 unfold UR;rw[List.find?_eq_none.2 λp hp=>by have:=List.of_mem_zip hp;simp;intro e;exact h (e▸this.1)]
theorem QU {L:List En} (k:List UInt8):UR (keysOf L) ((keysOf L).map (pk L)) k=pk L k:=by
 by_cases h:k∈keysOf L
 ·obtain⟨j,hj⟩:=bK.1 h;exact QT (pD L).nodup hj (by rw[ek,hj];rfl)
 ·rw[Gx h];exact(Kq 0 (λh'=>h (mO.2 h'))).symm
def xZ (d:Di) (k:List UInt8) (M:aM) (v:Value) (w:World):Prop:=(∃(j:Nat) (t:Li),d.1[j]? =some k/\d.2[j]? =some t/\cO RT.li M w v t)\/(v= .pointer none/\k∉d.1)
theorem xZ.step {d:Di} {k:List UInt8} {M M':aM} {v:Value} {w w':World} (h:xZ d k M v w) (s:Step M w M' w' aC):xZ d k M' v w':=h.imp (fun⟨j,t,h1,h2,h3⟩=>⟨j,t,h1,h2,h3.le Tg s.le⟩) id
theorem Mp {M:aM} {t:Fd} (w0:World) (hM:Lt M w0) (h1:t.1.length<=140737488355328) (h2:t.2.length<=140737488355328):
  Spec Tryz.prog 95 #[kv t] w0 (λv w=>v= .string ⟨(dv t).toArray⟩/\Step M w0 M w aC):=by
 refine bh (args:=[_]) (fn:=Tryz.f95) Tryz.func95 G (n:=9) Tryz.ntmps95 ?_;have S:Step M w0 M w0 aC:=aV;refine T.aQ ?_;refine ef (A:=RT.fd) G G hM (DO q0 q0) G (λu0 w1 dG s0 _=>?_);replace hM:=s0.lt hM;have:=S.size;replace S:=S.aw s0;refine Rg.aZ G G (T.aQ ?_);refine ao (M:=M) (A:=RT.fd) (B:=RT.str) br G G I9 Tg (EF) G G Tg Xf (by repeat (first|exact bQ _ _|refine bA (bR Xf) ?_)) (λzX kG=>?_);refine bB aA G G G G G kG bS (λv1 kg=>?_);obtain rfl:=dS kg;refine Rg.cat (p:=t.1) (q:=[0]) rfl rfl rfl a11 ?_;refine ao (M:=M) (A:=RT.fd) (B:=RT.str) br G G I9 Tg (Lz) G G Tg Xf (by repeat (first|exact bQ _ _|refine bA (bR Xf) ?_)) (λT3 ky=>?_);refine bB aA G G G G G ky bS (λv4 qu=>?_);obtain rfl:=dS qu;refine Rg.cat (p:=t.1++[0]) (q:=t.2) rfl rfl rfl a11 (Rg.aZ rfl rfl (aJ ?_));exact aK G G ⟨G,S⟩
namespace TKCursor
theorem kU:TI Tryz.prog 117 (.slice none 0 0) 1 24:=by unfold TI;kernel_rfl
theorem ZN:TI Tryz.prog 323 (.agg #[(.pointer none),(.int .i64 0),(.slice none 0 0),(.int .i64 0),(.int .i64 0)]) 5 56:=by unfold TI;kernel_rfl
theorem ZO:placesOf Tryz.prog 323=[(0,1),(1,1),(2,1),(3,1),(4,1)].map some:=by kernel_rfl
theorem L9:Enters Tryz.prog 100:=enters Tryz.func100 rfl Tg
theorem aeR:Enters Tryz.prog 220:=enters Tryz.func220 rfl Tg
end TKCursor
open TKCursor
set_option maxRecDepth 10000
theorem nB {l:List Po} {j:Nat} {p:Po} (h:l[j]? =some p):(lH l (j:Int))[0]? =some p:=by
 unfold lH;rw[if_neg q0,ar,dm,if_pos q0,iB];simpa using h
theorem IW {l:List Po} {i:Int} (h:(l.length:Int)<=i):lH l i=[]:=by
 unfold lH;rw[if_neg q0,fQ q0,List.take_nil]
theorem Ms {M:aM} {w0:World} {q:Addr} {l:List Po} (hv:cO RT.li M w0 (.pointer (some q)) (lr l)):
  Spec Tryz.prog 219 #[.pointer (some q)] w0 (λv' w'=>∃bc,v'= .pointer (some ⟨bc,0,none⟩)/\w0.heap.size<=bc/\Step M w0 (ins M bc) w' aC/\Cu 323 l (-1) (ins M bc) w' bc):=by
 refine bh (args:=[_]) (fn:=Tryz.f219) Tryz.func219 G (n:=12) Tryz.ntmps219 (T.aQ (Rg.aZ G G (aL (T.aQ (ab G G (Rg.Oi (v:= .pointer (some q)) dR G ⟨_,G⟩ G G (bg (v':= .bool (decide False)) G (ad ?_))))))));refine T.NR G ((λh=>h)) (aS (T.aQ (ab rfl rfl (dw (places:=[(0,1),(1,1),(2,1),(3,1),(4,1)]) b4 ZN ZO rfl ⟨_,_,rfl,rfl,_,_,rfl,rfl,_,_,rfl,rfl,rfl⟩ (out:=[_,_,.slice none 0 0,_,.int .i64 0]) ⟨0,[_],rfl,rfl,by simp[Value.cells],1,[_],rfl,rfl,by simp[Value.cells],3,[_],rfl,rfl,by simp[Value.cells],rfl⟩ ?_))));refine nS M G G (λbc w1 h1 TB hS s1=>?_);refine Rg.aZ G G (aJ ?_);exact aK G G ⟨bc,G,h1,s1,.pointer (some q),.slice none 0 0,-1,0,.inl G,hS,hv.le Tg s1.le,gZ,by omega,by omega,λ_=>rfl,λh=>by omega⟩
theorem Gy {M:aM} {w0:World} {bc:Nat} {l:List Po} {i:Int} (h:Cu 323 l i M w0 bc) (hm:eP (-1) l=true):
  Spec Tryz.prog 220 #[.pointer (some ⟨bc,0,none⟩)] w0 (λv' w'=>v'= .bool (decide (0<=i/\i<l.length))/\w0=w'):=by
 obtain⟨p,u,k,E7,yC,hb,hp,hu,hi,hk,Ot,qt⟩:=id h;have lJ:=E6 hm (i:=i);refine bh (args:=[_]) (fn:=Tryz.f220) Tryz.func220 G (n:=15) Tryz.ntmps220 (T.aQ (Rg.aZ G G (T.aQ (ab G G (bm G ⟨_,G⟩ G (aY b4 G G I3 Tg G G (aR al G G G Xf G (eB G G G ?_))))))));refine ab G G ?_;refine aO (g:=8) G (λlL=>?_) (λlL=>?_)
 ·refine ah G G (ab G G (ah G G (bm G ⟨_,G⟩ G (ah G G (aY b4 G G I3 Tg G G (ah G G (aR al G G G Xf G (ah G G (cx G G G (aU G G G (aN G G ?_)))))))))));refine ad (aJ ?_)
  first
  |exact a74
  |exact a73
 ·refine aj G G G G (aj G G G G (aj G G G G (aj G G G G (aj G G G G (aB G G G (Rg.aZ G G (aJ ?_)))))))
  first
  |exact a74
  |exact a73
theorem Gz {M:aM} {w0:World} {v:Value} {b:List Int} (hM:Lt M w0) (hv:((RT.int .i64).sl).V M w0 b v) (tN:b.length<=1099511627776):
  Spec Tryz.prog 100 #[v] w0 (λv' w'=>((RT.int .i64).sl).V M w' b v'∧Step M w0 M w' aC):=by
 obtain⟨a,cap,k8,hc,hl,hs⟩:=iV.1 hv;refine bh (args:=[_]) (fn:=Tryz.f100) Tryz.func100 G (n:=8) Tryz.ntmps100 (T.aQ (Rg.aZ G G (aL (T.aQ (ab G G (bg (v':= .slice a b.length cap) k8 (Rg.uh az G G G (ad ?_))))))));refine bE G (λc1=>?_) (λc1=>?_)
 ·refine T.aQ (Rg.aZ G G (aJ ?_))
  have hb:b=[]:=by
   rcases hs with h|⟨_,_,h,_⟩
   ·exact h
   ·rw[c1]at h;cases h
  exact aK rfl rfl ⟨by rw[hb];exact gZ,aV⟩
 ·refine aS (T.aQ ?_);refine Rg.sl0 az I3 M G (λa0 w1 s1=>?_);refine ab G G ?_;refine Rg.od (A:=RT.int .i64) (hn:=by decide) (M:=M) az I3 G G G G hv s1.le (s1.lt hM) q0 (λu2 w2 dY s2=>?_);refine Rg.aZ G G (aJ ?_);exact aK G G ⟨dY,s1.aw s2⟩
theorem D5 {M:aM} {w0:World} {bc:Nat} {l:List Po} {i:Int} (h:Cu 323 l i M w0 bc) (hm:eP (-1) l=true) (sO:∀p∈l,p.2.length<=1099511627776) (hM:Lt M w0):
  Spec Tryz.prog 167 #[.pointer (some ⟨bc,0,none⟩)] w0 (λv' w'=>((RT.int .i64).sl).V M w' (gr l i) v'∧Step M w0 M w' aC):=by
 obtain⟨p,u,k,E7,yC,hb,hp,hu,hi,hk,Ot,qt⟩:=id h;refine bh (args:=[_]) (fn:=Tryz.f167) Tryz.func167 G (n:=14) Tryz.ntmps167 (T.aQ (Rg.aZ G G (aL (T.aQ (ab G G ?_)))));refine aP G G aeR (Gy h hm) (λr wc h=>?_);obtain⟨rfl,rfl⟩:=h;refine fV G G (bg (v':= .bool (decide (¬(0<=i/\i<l.length)))) am5 (ad ?_));refine bE G (λc1=>?_) (λc1=>?_)
 ·have jt:gr l i=[]:=by
   rcases fj l i with⟨_,_,h0⟩|⟨j,d,ps,rfl,hx,_⟩|⟨_,_,h0⟩
   ·exact h0
   ·have:=(an.1 hx).1;omega
   ·exact h0
  refine T.aQ (Rg.aZ G G (aJ ?_));exact aK rfl rfl ⟨by rw[jt];exact gZ,aV⟩
 ·obtain⟨j,d,ps,rfl,hx,hd,yI⟩:∃j:Nat,∃d ps,i=j/\l[j]? =some (d,ps)/\eW l i=d/\gr l i=ps:=by
   rcases fj l i with⟨h0,_⟩|h0|⟨h0,_⟩
   ·omega
   ·exact h0
   ·omega
  have hh:=nB hx;have hhl:=(an.1 hh).1;refine aS (T.aQ (ab G G (bm G ⟨_,G⟩ G (aY b4 G G kU Tg G G (aR bJ G G G Xf G ?_)))));refine cC bJ jg G G G (hu) bS a52 (λYn ZQ QV aeS=>?_);obtain rfl:(d,ps)=ZQ:=cD (aI (QV.symm.trans (by simpa using hh)));refine ao (M:=M) (A:=RT.po) (B:=(RT.int .i64).sl) cw G G qc Tg (XM) G G Tg Xf (by repeat (first|exact bQ _ _|refine bA (bR Xf) ?_)) (λZl Qv=>?_);refine bB (M:=M) az G G G G G Xf (by repeat (first|exact bQ _ _|refine bA (bR Xf) ?_)) (λUC xX=>?_);replace xX:((RT.int .i64).sl).V M _ ps UC:=xX;refine aP G G L9 (Gz (M:=M) hM xX (sO _ (av hx))) (λr wr h=>?_);obtain⟨hr,sr⟩:=h;refine Rg.aZ G G (aJ ?_);exact aK rfl rfl ⟨by rw[yI];exact hr,sr⟩
theorem GA {M:aM} {w0:World} {bc:Nat} {l:List Po} {i:Int} (h:Cu 323 l i M w0 bc) (hm:eP (-1) l=true):
  Spec Tryz.prog 165 #[.pointer (some ⟨bc,0,none⟩)] w0 (λv' w'=>v'= .int .i64 (gr l i).length/\w0=w'):=by
 obtain⟨p,u,k,E7,yC,hb,hp,hu,hi,hk,Ot,qt⟩:=id h;refine bh (args:=[_]) (fn:=Tryz.f165) Tryz.func165 G (n:=14) Tryz.ntmps165 (T.aQ (Rg.aZ G G (aL (T.aQ (ab G G ?_)))));refine aP G G aeR (Gy h hm) (λr wc h=>?_);obtain⟨rfl,rfl⟩:=h;refine fV G G (bg (v':= .bool (decide (¬(0<=i/\i<l.length)))) am5 (ad ?_));refine bE G (λc1=>?_) (λc1=>?_)
 ·have jt:gr l i=[]:=by
   rcases fj l i with⟨_,_,h0⟩|⟨j,d,ps,rfl,hx,_⟩|⟨_,_,h0⟩
   ·exact h0
   ·have:=(an.1 hx).1;omega
   ·exact h0
  refine T.aQ (Rg.aZ G G (aJ ?_));exact aK rfl rfl ⟨by rw[jt];rfl,rfl⟩
 ·obtain⟨j,d,ps,rfl,hx,hd,yI⟩:∃j:Nat,∃d ps,i=j/\l[j]? =some (d,ps)/\eW l i=d/\gr l i=ps:=by
   rcases fj l i with⟨h0,_⟩|h0|⟨h0,_⟩
   ·omega
   ·exact h0
   ·omega
  have hh:=nB hx;have hhl:=(an.1 hh).1;refine aS (T.aQ (ab G G (bm G ⟨_,G⟩ G (aY b4 G G kU Tg G G (aR bJ G G G Xf G ?_)))));refine cC bJ jg G G G (hu) bS a52 (λYn ZQ QV aeS=>?_);obtain rfl:(d,ps)=ZQ:=cD (aI (QV.symm.trans (by simpa using hh)));refine ao (M:=M) (A:=RT.po) (B:=(RT.int .i64).sl) cw G G qc Tg (XM) G G Tg Xf (by repeat (first|exact bQ _ _|refine bA (bR Xf) ?_)) (λZl Qv=>?_);refine bB (M:=M) az G G G G G Xf (by repeat (first|exact bQ _ _|refine bA (bR Xf) ?_)) (λUC xX=>?_);replace xX:((RT.int .i64).sl).V M _ ps UC:=xX;refine bC az G xX G (Rg.aZ G G (aJ ?_));exact aK rfl rfl ⟨by rw[yI],rfl⟩
def mS (l:List Po) (i:Int):Int:=if i<l.length then i+1 else i
theorem QW {l:List Po} (hm:eP (-1) l=true) {i:Int} (hi: -1<=i/\i<=l.length):tf l i (min (eW l i+1) 2147483648)=mS l i:=by
 unfold tf mS;rcases fj l i with⟨h0,h,_⟩|⟨j,d,ps,rfl,hx,h,_⟩|⟨h0,h,_⟩
 ·rw[h,if_neg q0,if_pos q0];rw[idx_eq (i:=0) (λj hj=>absurd hj (ec _)) (λp hp=>by have:=lU hm (i:=0) (d:=p.1) (ps:=p.2) hp;omega) (a8 _)];omega
 ·have hr:=lU hm hx;have hj:=(an.1 hx).1;rw[h,if_neg q0,if_pos q0];rw[idx_eq (i:=j+1) (λt ht p hp=>?_) (λp hp=>?_) q0]
  ·omega
  ·rcases cH t j with h1|h1
   ·have:=nu hm hp hx h1;simp only at this;omega
   ·rw[show t=j from by omega,hx]at hp;cases hp;simp only;omega
  ·have h1:=nu hm hx hp q0;have h2:=lU hm (i:=j+1) (d:=p.1) (ps:=p.2) hp;simp only at h1;omega
 ·rw[h,if_pos q0,if_neg q0]
end Go.K
namespace Go.K
open Go.Proofs
namespace TKIdx
theorem am6:Enters Tryz.prog 225:=enters Tryz.func225 rfl Tg
end TKIdx
open TKIdx
set_option maxRecDepth 10000
theorem Mt {M:aM} {w0:World} {x:Value} {d to:Int} {bt:Nat} (hM:Lt M w0) (hb:w0.heap[bt]? =some (.cells #[.int .i64 to] 3 (0,0))):
  Spec Tryz.prog 225 #[.agg #[.int .i64 d,x],.pointer (some ⟨bt,0,none⟩)] w0 (λv' w'=>v'= .bool (decide (to<=d))/\Step M w0 M w' aC):=by
 refine bh (args:=[_,_]) (fn:=Tryz.f225) Tryz.func225 G (n:=8) Tryz.ntmps225 (T.aQ ?_);refine nS M G G (λbx w1 h1 TB hS s1=>?_);change w1.heap[bx]? =some (.cells #[.int .i64 d,x] _ _)at hS;have wK:=s1.aF hb;refine Rg.aZ G G (T.aQ (aY cw G G I3 Tg G G (aR al G G G Xf G (aR al G G G Xf G (eB G G G (Rg.aZ G G (aJ ?_)))))));exact aK G G ⟨G,s1.back⟩
set_option maxHeartbeats 2000000 in
theorem uV {M:aM} {w0:World} {v:Value} {lf:List Po} {to:Int} {bt:Nat} (hM:Lt M w0) (hv:((RT.po).sl).V M w0 lf v) (hb:w0.heap[bt]? =some (.cells #[.int .i64 to] 3 (0,0))):
  Spec Tryz.prog 224 #[v,.func (.func 225) #[] #[.pointer (some ⟨bt,0,none⟩)]] w0 (λv' w'=>v'= .int .i64 (if idx lf to<lf.length then(idx lf to:Int)else-1)/\Step M w0 M w' aC):=by
 have hlen:=cU hv;refine bh (args:=[_,_]) (fn:=Tryz.f224) Tryz.func224 G (n:=19) Tryz.ntmps224 (T.aQ (Rg.aZ G G (aL (T.aQ (ab G G (bC bJ G hv G (ab G G (ad ?_))))))));refine aX ?_;refine dd (σ:=Nat) (λs=>[(0,v),(1,.func (.func 225) #[] #[.pointer (some ⟨bt,0,none⟩)]),(7,.int .i64 lf.length),(8,.int .i64 s)]) (λs w=>s<=lf.length/\Step M w0 M w aC/\∀j,j<s->∀p,lf[j]? =some p->p.1<to) (λs=>lf.length-s) 0 a00 ?_ ?_
 ·exact⟨a8 _,aV,λj hj=>absurd hj (ec _)⟩
 ·rintro k w1 ⟨hk,S,eZ⟩;refine T.aQ (cx G G G (ad (aL ?_)));refine bE G (λc2=>?_) (λc2=>?_)
  ·refine aS (aL (aX (T.aQ (ab G G (Rg.aZ G G (T.aQ (ab G G (ab G G ?_))))))));refine ab G G ?_;obtain⟨⟨d,ps⟩,hx⟩:∃x,(lf)[k]? =some x:=⟨_,aq q0⟩;refine cC bJ jg G G G (hv.le S.le) bS a52 (λacP am7 aeT ar9=>?_);obtain rfl:(d,ps)=am7:=cD (aI (aeT.symm.trans ad8));refine bN (M:=M) (A:=RT.po) cw G jg Tg G G G Xf (by repeat (first|exact bQ _ _|refine bA (bR Xf) ?_)) (λawQ aeU=>?_);obtain⟨x4,rfl,_,_⟩:=XP aeU;refine oS (first:=[]) (captured:=[.pointer (some ⟨bt,0,none⟩)]) (xs:=[.tmp 15]) G G G am6 (Mt (M:=M) (d:=d) (x:=x4) (S.lt hM) (S.aF hb)) (λr w2 h2=>?_);obtain⟨rfl,s2⟩:=h2;refine ad ?_;refine bE G (λc4=>?_) (λc4=>?_)
   ·refine T.aQ (ab G G (Rg.aZ G G (aJ ?_)));have he:idx lf to=k:=idx_eq eZ (λp hp=>by rw[hx]at hp;cases hp;exact c4) hk;exact aK rfl rfl ⟨by rw[he,if_pos q0],S.aw s2⟩
   ·refine aS (aH (bu G G G q0 (ab G G (ad ?_))));refine⟨G,k+1,a00,?_,?_⟩
    ·refine ⟨by omega,S.aw s2,λj hj p hp=> ?_⟩;rcases cH j k with hjk|hjk
     ·exact eZ j hjk p hp
     ·rw[show j=k from by omega,hx]at hp;cases hp;simp only;omega
    ·show _-(k+1)<_-k;omega
  ·refine cN (T.aQ (Rg.aZ G G (aJ ?_)))
   have he:idx lf to=lf.length:=by
    obtain rfl:k=lf.length:=by omega
    exact idx_eq eZ (λp hp=>by simp at hp) (bz _)
   exact aK rfl rfl ⟨by rw[he,if_neg q0],S⟩
end Go.K
namespace Go.K
open Go.Proofs
namespace TKAdv
theorem kU:TI Tryz.prog 117 (.slice none 0 0) 1 24:=by unfold TI;kernel_rfl
theorem US:Enters Tryz.prog 166:=enters Tryz.func166 rfl Tg
theorem UT:Enters Tryz.prog 221:=enters Tryz.func221 rfl Tg
theorem am8:Enters Tryz.prog 222:=enters Tryz.func222 rfl Tg
theorem am9:Enters Tryz.prog 223:=enters Tryz.func223 rfl Tg
theorem aeV:Enters Tryz.prog 224:=enters Tryz.func224 rfl Tg
end TKAdv
open TKAdv
set_option maxRecDepth 10000
set_option maxHeartbeats 2000000 in
theorem pN {M:aM} {w0:World} {bc:Nat} {l:List Po} {i to:Int} (h:Cu 323 l i M w0 bc) (hM:Lt M w0) (hm:eP (-1) l=true) (sO:∀p∈l,p.2.length<=1099511627776) (tN:(eJ (-1) l).length<=1099511627776) (N4:l.length<=1099511627776) (hto: -9223372036854775808<=to/\to<=9223372036854775807):
  Spec Tryz.prog 166 #[.pointer (some ⟨bc,0,none⟩),.int .i64 to] w0 (λv' w'=>v'= .int .i64 (eW l (tf l i to))/\Step M w0 M w' (λb=>b=bc)/\Cu 323 l (tf l i to) M w' bc):=by
 obtain⟨p,u,k,E7,yC,hb,hp,hu,hi,hk,Ot,qt⟩:=id h;have Nr:(lr l).2.1.length=(l.length+7)/8:=by simp[lr,qb]
 have Ez:∀b:Nat,b=bc->M b:=λb hb=>by rw[hb];exact yC
 have hdr:=wF hm i;refine bh (args:=[_,_]) (fn:=Tryz.f166) Tryz.func166 G (n:=107) Tryz.ntmps166 (T.aQ ?_);refine nS M G G (λbt w1 ht ht' hT s1=>?_);change w1.heap[bt]? =some (.cells #[.int .i64 to] _ _)at hT;have QG:bt≠bc:=by have:=ae hb;omega
 have wK:=s1.aF hb;generalize BX:ins M bt=M1 at s1;have pH:=s1.lt hM;have SV:=hp.le Tg s1.le;have gh:=hu.le s1.le;have BY:=(s1.mem bc (ae hb)).2 yC;have hcM:∀b:Nat,b=bc->M1 b:=λb h=>by rw[h];exact BY
 refine Rg.aZ G G (aL (aL ?_));apply T.draw (M:=M1) mixed [cj.eq _,cj.eq _,cj.eq _,cj.eq _,cj.eq _,cj.eq _]
 ·rfl
 ·refine aE ?_ ?_
  ·intro wD E sD;refine aR al G G G (ch sD Xf) G ?_;exact a01
  refine aE ?_ ?_
  ·intro wD E sD;refine ab G G ?_;exact a01
  refine aE ?_ ?_
  ·intro wD E sD;refine au (bm G ⟨_,G⟩ G ?_);exact a01
  refine aE ?_ ?_
  ·intro wD E sD;refine au (aY b4 G G I3 Tg G G ?_);exact a01
  refine aE ?_ ?_
  ·intro wD E sD;refine au (aR al G G G (ch sD Xf) G ?_);exact a01
  refine aE ?_ ?_
  ·intro wD E sD;refine au (au (fM G G G ?_));exact a01
  exact rI
 ·intro LI mI;refine au (au (au (au (au (au ?_)))));have EL:=mI.aF wK;refine bE G (λc1=>?_) (λc1=>?_)
  ·refine T.aQ (ab G G (bm G ⟨_,G⟩ G (aY b4 G G I3 Tg G G (aR al G G G Xf G (Rg.aZ G G (aJ ?_))))));have he:tf l i to=i:=by unfold tf;rw[if_pos c1]
   rw[he];have S:=s1.aw mI;exact aK G G ⟨G,S.back.eI a30 Ez,h.step S.back (λh=>h)⟩
  ·refine aS (T.aQ (ab G G (bm G ⟨_,G⟩ G (aY b4 G G I3 Tg G G (aR al G G G Xf G (Rg.max2 G G G (Rg.aZ G G (aL (aX ?_)))))))));refine dd (σ:=Nat) (λs=>[(0,.pointer (some ⟨bc,0,none⟩)),(3,.pointer (some ⟨bt,0,none⟩)),(5,.int .i64 s)]) (λs w=>s<=(l.length+7)/8/\cV (-1) (l.take (8*s))<to/\Step M1 w1 M1 w aC) (λs=>(l.length+7)/8-s) (max k 0).toNat (.cons rfl (.cons rfl (.cons (by rw[show(((max k 0).toNat:Nat):Int)=max k 0 from by omega];rfl) .nil))) ?_ ?_
   ·exact⟨by omega,Lv hm hi hk Ot qt q0,mI⟩
   ·rintro n w4 ⟨hn,hlo,S4⟩;have UE:=S4.aF wK;have hT4:=S4.aF hT;have NG:=SV.le Tg S4.le;refine aL (aL ?_);by_cases UU:(n:Int)<(((l.length+7)/8:Nat):Int)
    ·apply T.draw (M:=M1) mixed [cj.eq _,cj.eq _,cj.eq _,cj.eq _,cj.eq _,cj.eq _,cj.eq _,cj.eq (.bool true),cj.eq _,cj.eq _,cj.eq _,cj.eq _,cj.eq _,cj.eq _,cj.eq _,cj.eq _,cj.eq _]
     ·rfl
     ·refine aE ?_ ?_
      ·intro wD E sD;refine ab G G ?_;exact a01
      refine aE ?_ ?_
      ·intro wD E sD;refine ab G G ?_;exact a01
      refine aE ?_ ?_
      ·intro wD E sD;refine au (bm G ⟨_,G⟩ G ?_);exact a01
      refine aE ?_ ?_
      ·intro wD E sD;refine au (aY b4 G G ti Tg G G ?_);exact a01
      refine aE ?_ ?_
      ·intro wD E sD;refine au (aR dR G G G (ch sD Xf) G ?_);exact a01
      refine aE ?_ ?_
      ·intro wD E sD;refine au ?_;refine aP G G UT (nz (M:=M1) (NG.le Tg sD.le)) (λr wc h=>?_);obtain⟨rfl,rfl⟩:=h;exact ad ⟨G,G,_,G,congrArg (λn:Nat=>Value.int .i64 n) Nr,aV⟩
      refine aE ?_ ?_
      ·intro wD E sD;refine au (au (cx G G G ?_));exact a01
      refine aE ?_ ?_
      ·intro wD E sD;refine au (au (ab G G ?_));refine ad ⟨G,G,_,G,?_,aV⟩;exact congrArg Value.bool (decide_eq_true UU)
      refine aE ?_ ?_
      ·intro wD E sD;refine au (ah G G (ab G G ?_));exact a01
      refine aE ?_ ?_
      ·intro wD E sD;refine au (au (ah G G (bm G ⟨_,G⟩ G ?_)));exact a01
      refine aE ?_ ?_
      ·intro wD E sD;refine au (au (ah G G (aY b4 G G ti Tg G G ?_)));exact a01
      refine aE ?_ ?_
      ·intro wD E sD;refine au (au (ah G G (aR dR G G G (ch sD Xf) G ?_)));exact a01
      refine aE ?_ ?_
      ·intro wD E sD;refine au (ah G G (ab G G ?_));exact a01
      refine aE ?_ ?_
      ·intro wD E sD;refine au (au (au (au (ah G G ?_))));refine aP G G am8 (Me (k:=n) (NG.le Tg sD.le)) (λr wc h=>?_);obtain⟨rfl,rfl⟩:=h;exact a01
      refine aE ?_ ?_
      ·intro wD E sD;refine au (ah G G (aR al G G G (ch sD Xf) G ?_));exact a01
      refine aE ?_ ?_
      ·intro wD E sD;refine au (au (au (ah G G (cx G G G ?_))));exact a01
      refine aE ?_ ?_
      ·intro wD E sD;refine au (au (aU G G G ?_));exact a01
      exact rI
     ·intro wD4 rE;refine au (au (au (au (au (au (au (au (au (au (au (au ?_)))))))))));refine au (au (au (au (au ?_))));replace S4:=S4.aw rE;replace UE:=rE.aF UE;replace hT4:=rE.aF hT4;replace NG:=NG.le Tg rE.le;have Wy:=S4.lt pH;refine bE G (λc4=>?_) (λc4=>?_)
      ·refine aS (aX (aH (ab G G (bu G G G q0 (Rg.aZ G G ?_)))));refine⟨G,n+1,a07,?_,?_⟩
       ·have EB:=E5 (g:=l) (k:=n) q0;refine⟨by omega,?_,S4⟩;rw[show 8*(n+1)=8*n+8 from by omega,<-EB];exact c4
       ·show _-(n+1)<_-n;omega
      ·refine cN (aL (T.aQ (ab G G (ab G G (bm G ⟨_,G⟩ G (aY b4 G G ti Tg G G (aR dR G G G Xf G ?_)))))));refine aP G G UT (nz (M:=M1) NG) (λr wc h=>?_);obtain⟨rfl,rfl⟩:=h;refine bg (v':= .int .i64 (((l.length+7)/8:Nat):Int)) (congrArg (λn:Nat=>Value.int .i64 n) Nr) (fe G G G (ad ?_));refine bE G (λc6=>?_) (λc6=>?_)
       ·exfalso;omega
       ·have hnk:n<(l.length+7)/8:=by omega
        have hhi:to<=cV (-1) (l.take (8*n+8)):=by
         first
         |(exfalso;omega)
         |(have:=E5 (g:=l) (k:=n) q0;omega)
        refine aS (aL (T.aQ (ab G G (ab G G (bm G ⟨_,G⟩ G (aY b4 G G I3 Tg G G (aR al G G G Xf G (fm G G G (ad ?_)))))))));refine bE G (λc9=>?_) (λc9=>?_)
        ·refine T.aQ (ab G G (ab G G (ab G G (ab G G (bm G ⟨_,G⟩ G (aY b4 G G ti Tg G G (aR dR G G G Xf G (ab G G ?_))))))));refine aP G G am9 (IB (M:=M1) (k:=n) Wy NG hm sO tN) (λH4 w10 h=>?_);obtain⟨qv,L8⟩:=h;rw[if_pos (by unfold Om;simp;omega),ar]at L8;have anb:=qv.aF UE;refine bm G ⟨_,G⟩ G (aY b4 G G I3 Tg G G ?_);refine cv (M:=M1) I3 G G anb G G BY (λw11 aeW yB=>?_);change w11.heap[bc]? =some (.cells #[p,.int .i64 n,u,.int .i64 (eW l i),.int .i64 E7] 323 (0,0))at aeW;refine bm G ⟨_,G⟩ G (aY b4 G G kU Tg G G ?_);refine cv (M:=M1) kU G G aeW G (jL L8 G G) BY (λLK UW lW=>?_);change LK.heap[bc]? =some (.cells #[p,.int .i64 n,H4,.int .i64 (eW l i),.int .i64 E7] 323 (0,0))at UW;refine ad (aH (ab G G (bm G ⟨_,G⟩ G (aY b4 G G I3 Tg G G (aR al G G G Xf G (Rg.y4 G G G (bm G ⟨_,G⟩ G (aY b4 G G I3 Tg G G ?_))))))));refine cv (M:=M1) I3 G G UW G G BY (λWp ZR uM=>?_);change Wp.heap[bc]? =some (.cells #[p,.int .i64 n,H4,.int .i64 (eW l i),.int .i64 (IntKind.i64.wrap (E7+1))] 323 (0,0))at ZR;obtain⟨lf,uX,cX,s,wX,hwX,hbX,hlV,XN,VJ,B6,Bx,hs4,hpX,hTX,SX⟩:∃lf uX cX s wX,wX=Wp/\wX.heap[bc]? =some (.cells #[p,.int .i64 n,uX,.int .i64 (eW l i),.int .i64 cX] 323 (0,0))/\((RT.po).sl).V M1 wX lf uX/\lf=(l.drop s).take (8*n+8-s)/\8*n<=s/\s<8*n+8/\s<l.length/\cV (-1) (l.take s)<to/\cO RT.li M1 wX p (lr l)/\wX.heap[bt]? =some (.cells #[.int .i64 to] 3 (0,0))/\Step M1 w1 M1 wX (λb=>b=bc):=⟨_,H4,_,8*n,Wp,rfl,ZR,((L8.le yB.le).le lW.le).le uM.le,by rw[show 8*n+8-8*n=8 from by omega],by omega,by omega,by omega,hlo,(((NG.le Tg qv.le).le Tg yB.le).le Tg lW.le).le Tg uM.le,uM.bU (lW.bU (yB.bU (qv.aF hT4) QG) QG) QG,((((S4.eI a30 hcM).aw qv).trans yB (λ_ _ h=>h)).trans lW (λ_ _ h=>h)).trans uM (λ_ _ h=>h)⟩
         subst hwX;clear ZR;refine ad (aL ?_);obtain⟨ha1,SO,ha3,ha4,ha5⟩:=Cj hm VJ B6 Bx hs4 hhi XN;have hMX:=SX.lt pH;obtain⟨⟨d,ps⟩,hx⟩:∃x,l[idx l to]? =some x:=⟨_,aq ha3⟩;have hh:=nB hx;have hhl:=(an.1 hh).1;apply T.qD (M:=M1) mixed [] [cj.eq _,cj.eq _,cj.eq _,cj.eq _,cj.eq uX,cj.eq _,cj.eq _,cj.eq _,cj.eq uX,cj.eq _,cj.eq _,cj.V ((RT.po).sl) (lH l (idx l to:Nat))] 12
         ·rfl
         ·rfl
         ·rfl
         ·rfl
         ·rfl
         ·exact a88
         ·exact oT
         ·refine ay ?_ ?_
          ·intro wD E sD;refine ab G G ?_;exact a01
          refine ay ?_ ?_
          ·intro wD E sD;refine ab G G ?_;exact a01
          refine ay ?_ ?_
          ·intro wD E sD;refine au (bm G ⟨_,G⟩ G ?_);exact a01
          refine ay ?_ ?_
          ·intro wD E sD;refine au (aY b4 G G kU Tg G G ?_);exact a01
          refine ay ?_ ?_
          ·intro wD E sD;refine au (aR bJ G G G (ch sD Xf) G ?_);exact a01
          refine ay ?_ ?_
          ·intro wD E sD;refine ab G G ?_;exact a01
          refine ay ?_ ?_
          ·intro wD E sD;refine au (bm G ⟨_,G⟩ G ?_);exact a01
          refine ay ?_ ?_
          ·intro wD E sD;refine au (aY b4 G G kU Tg G G ?_);exact a01
          refine ay ?_ ?_
          ·intro wD E sD;refine au (aR bJ G G G (ch sD Xf) G ?_);exact a01
          refine ay ?_ ?_
          ·intro wD E sD;refine iS (xs:=[]) (ys:=[.tmp 3]) G G G ?_;exact a01
          refine ay ?_ ?_
          ·intro wD E sD;refine au (au ?_);refine aP G G aeV (uV (M:=M1) (sD.lt hMX) (hlV.le sD.le) (sD.aF hTX)) (λr wi h=>?_);obtain⟨rfl,s⟩:=h;refine bg (v':= .int .i64 ((idx lf to:Nat):Int)) (by rw[if_pos SO]) ?_;exact ad ⟨G,G,_,G,G,s⟩
          refine ay ?_ ?_
          ·intro wD E sD;refine au (au ?_);refine Rg.oW (A:=RT.po) (hn:=by decide) bJ jg G G G (hlV.le sD.le) q0 (λu hu=>?_);rw[ar,ha5]at hu;exact ad ⟨G,G,_,G,hu,aV⟩
          exact jS
         ·intro IH rQ;refine au (au (au (au (au (au (au (au (au (au (au ?_))))))))));intro pO D6;have ZS:=rQ.aF hbX;have lG:((RT.po).sl).V M1 IH (lH l (idx l to:Nat)) pO:=D6;have S14:=SX.aw rQ;refine bm G ⟨_,G⟩ G (aY b4 G G kU Tg G G ?_);refine cv (M:=M1) kU G G ZS G (jL lG G G) BY (λH7 QX py=>?_);change H7.heap[bc]? =some (.cells #[p,.int .i64 n,pO,.int .i64 (eW l i),.int .i64 cX] 323 (0,0))at QX;replace lG:=lG.le py.le;refine ad (T.aQ (ab G G (ab G G (bm G ⟨_,G⟩ G (aY b4 G G kU Tg G G (aR bJ G G G Xf G ?_))))));refine cC bJ jg G G G (lG) bS a52 (λaeY QY IX ZT=>?_);obtain rfl:(d,ps)=QY:=cD (aI (IX.symm.trans (by simpa using hh)));refine ao (M:=M1) (A:=RT.po) (B:=RT.int .i64) cw G G I3 Tg (SP) G G Tg Xf (by repeat (first|exact bQ _ _|refine bA (bR Xf) ?_)) (λWb Pd=>?_);refine bV (M:=M1) al G G Xf (by repeat (first|exact bQ _ _|refine bA (bR Xf) ?_)) (λAD=>?_);refine bg (v':= .int .i64 (d)) G ?_;replace AD: -9223372036854775808<=(d:Int)/\d<=9223372036854775807:=AD;refine bm G ⟨_,G⟩ G (aY b4 G G I3 Tg G G ?_);refine cv (M:=M1) I3 G G QX G G BY (λWx QZ IK=>?_);change Wx.heap[bc]? =some (.cells #[p,.int .i64 n,pO,.int .i64 d,.int .i64 cX] 323 (0,0))at QZ;replace lG:=lG.le IK.le;refine ad (T.aQ (ab G G (bm G ⟨_,G⟩ G (aY b4 G G I3 Tg G G (aR al G G G Xf G (Rg.aZ G G (aJ ?_)))))))
          have he:tf l i to=(idx l to:Int):=by unfold tf;rw[if_neg c1]
          rw[he];have S7:=((s1.eI a30 Ez).trans ((S14.trans py (λ_ _ h=>h)).trans IK (λ_ _ h=>h)) (λ_ _ h=>h));exact aK rfl rfl ⟨by rw[jI hx];rfl,S7.back,p,pO,n,cX,yC,by rw[jI hx];exact QZ,(hp.le Tg S7.back.le),lG.le (lE hM S7),by omega,by omega,λh=>by omega,λ_ h=>by omega⟩
        ·have awT:=(kM l (-1) hm Tg (8*n+8)).2
         obtain⟨N0,Bt⟩:0<=i/\i<l.length:=by
          rcases fj l i with⟨h0,_⟩|⟨j,d,ps,rfl,hx,_⟩|⟨h0,h1,_⟩
          ·have:=Ot h0;omega
          ·have:=(an.1 hx).1;omega
          ·omega
         have EX:=qt N0 Bt;obtain⟨j,jr⟩:∃j:Nat,i=j:=⟨i.toNat,by omega⟩;obtain⟨⟨dj,pj⟩,GB⟩:∃x,l[j]? =some x:=⟨_,aq q0⟩;have hdj:=jI GB;rw[<-jr]at hdj;have hlj:=(qF hm GB).1;obtain rfl:(n:Int)=k:=by omega
         have xM:=gh.le S4.le;obtain⟨lf,uX,cX,s,wX,hwX,hbX,hlV,XN,VJ,B6,Bx,hs4,hpX,hTX,SX⟩:∃lf uX cX s wX,wX=_/\wX.heap[bc]? =some (.cells #[p,.int .i64 n,uX,.int .i64 (eW l i),.int .i64 cX] 323 (0,0))/\((RT.po).sl).V M1 wX lf uX/\lf=(l.drop s).take (8*n+8-s)/\8*n<=s/\s<8*n+8/\s<l.length/\cV (-1) (l.take s)<to/\cO RT.li M1 wX p (lr l)/\wX.heap[bt]? =some (.cells #[.int .i64 to] 3 (0,0))/\Step M1 w1 M1 wX (λb=>b=bc):=⟨_,u,E7,j,_,rfl,UE,xM,by rw[jr];unfold lH;rw[if_neg q0,ar,show 8*n+8-j=8-j%8 from by omega],by omega,by omega,by omega,by omega,NG,hT4,S4.eI a30 hcM⟩;subst hwX;clear UE;refine aS (aL ?_);obtain⟨ha1,SO,ha3,ha4,ha5⟩:=Cj hm VJ B6 Bx hs4 hhi XN;have hMX:=SX.lt pH;obtain⟨⟨d,ps⟩,hx⟩:∃x,l[idx l to]? =some x:=⟨_,aq ha3⟩;have hh:=nB hx;have hhl:=(an.1 hh).1;apply T.qD (M:=M1) mixed [] [cj.eq _,cj.eq _,cj.eq _,cj.eq _,cj.eq uX,cj.eq _,cj.eq _,cj.eq _,cj.eq uX,cj.eq _,cj.eq _,cj.V ((RT.po).sl) (lH l (idx l to:Nat))] 12
         ·rfl
         ·rfl
         ·rfl
         ·rfl
         ·rfl
         ·exact a88
         ·exact oT
         ·refine ay ?_ ?_
          ·intro wD E sD;refine ab G G ?_;exact a01
          refine ay ?_ ?_
          ·intro wD E sD;refine ab G G ?_;exact a01
          refine ay ?_ ?_
          ·intro wD E sD;refine au (bm G ⟨_,G⟩ G ?_);exact a01
          refine ay ?_ ?_
          ·intro wD E sD;refine au (aY b4 G G kU Tg G G ?_);exact a01
          refine ay ?_ ?_
          ·intro wD E sD;refine au (aR bJ G G G (ch sD Xf) G ?_);exact a01
          refine ay ?_ ?_
          ·intro wD E sD;refine ab G G ?_;exact a01
          refine ay ?_ ?_
          ·intro wD E sD;refine au (bm G ⟨_,G⟩ G ?_);exact a01
          refine ay ?_ ?_
          ·intro wD E sD;refine au (aY b4 G G kU Tg G G ?_);exact a01
          refine ay ?_ ?_
          ·intro wD E sD;refine au (aR bJ G G G (ch sD Xf) G ?_);exact a01
          refine ay ?_ ?_
          ·intro wD E sD;refine iS (xs:=[]) (ys:=[.tmp 3]) G G G ?_;exact a01
          refine ay ?_ ?_
          ·intro wD E sD;refine au (au ?_);refine aP G G aeV (uV (M:=M1) (sD.lt hMX) (hlV.le sD.le) (sD.aF hTX)) (λr wi h=>?_);obtain⟨rfl,s⟩:=h;refine bg (v':= .int .i64 ((idx lf to:Nat):Int)) (by rw[if_pos SO]) ?_;exact ad ⟨G,G,_,G,G,s⟩
          refine ay ?_ ?_
          ·intro wD E sD;refine au (au ?_);refine Rg.oW (A:=RT.po) (hn:=by decide) bJ jg G G G (hlV.le sD.le) q0 (λu hu=>?_);rw[ar,ha5]at hu;exact ad ⟨G,G,_,G,hu,aV⟩
          exact jS
         ·intro IH rQ;refine au (au (au (au (au (au (au (au (au (au (au ?_))))))))));intro pO D6;have ZS:=rQ.aF hbX;have lG:((RT.po).sl).V M1 IH (lH l (idx l to:Nat)) pO:=D6;have S14:=SX.aw rQ;refine bm G ⟨_,G⟩ G (aY b4 G G kU Tg G G ?_);refine cv (M:=M1) kU G G ZS G (jL lG G G) BY (λH7 QX py=>?_);change H7.heap[bc]? =some (.cells #[p,.int .i64 n,pO,.int .i64 (eW l i),.int .i64 cX] 323 (0,0))at QX;replace lG:=lG.le py.le;refine ad (T.aQ (ab G G (ab G G (bm G ⟨_,G⟩ G (aY b4 G G kU Tg G G (aR bJ G G G Xf G ?_))))));refine cC bJ jg G G G (lG) bS a52 (λaeY QY IX ZT=>?_);obtain rfl:(d,ps)=QY:=cD (aI (IX.symm.trans (by simpa using hh)));refine ao (M:=M1) (A:=RT.po) (B:=RT.int .i64) cw G G I3 Tg (SP) G G Tg Xf (by repeat (first|exact bQ _ _|refine bA (bR Xf) ?_)) (λWb Pd=>?_);refine bV (M:=M1) al G G Xf (by repeat (first|exact bQ _ _|refine bA (bR Xf) ?_)) (λAD=>?_);refine bg (v':= .int .i64 (d)) G ?_;replace AD: -9223372036854775808<=(d:Int)/\d<=9223372036854775807:=AD;refine bm G ⟨_,G⟩ G (aY b4 G G I3 Tg G G ?_);refine cv (M:=M1) I3 G G QX G G BY (λWx QZ IK=>?_);change Wx.heap[bc]? =some (.cells #[p,.int .i64 n,pO,.int .i64 d,.int .i64 cX] 323 (0,0))at QZ;replace lG:=lG.le IK.le;refine ad (T.aQ (ab G G (bm G ⟨_,G⟩ G (aY b4 G G I3 Tg G G (aR al G G G Xf G (Rg.aZ G G (aJ ?_)))))))
          have he:tf l i to=(idx l to:Int):=by unfold tf;rw[if_neg c1]
          rw[he];have S7:=((s1.eI a30 Ez).trans ((S14.trans py (λ_ _ h=>h)).trans IK (λ_ _ h=>h)) (λ_ _ h=>h));exact aK rfl rfl ⟨by rw[jI hx];rfl,S7.back,p,pO,n,cX,yC,by rw[jI hx];exact QZ,(hp.le Tg S7.back.le),lG.le (lE hM S7),by omega,by omega,λh=>by omega,λ_ h=>by omega⟩
    ·apply T.draw (M:=M1) mixed [cj.eq _,cj.eq _,cj.eq _,cj.eq _,cj.eq _,cj.eq _,cj.eq _,cj.eq (.bool false),cj.eq undef,cj.eq undef,cj.eq undef,cj.eq undef,cj.eq undef,cj.eq undef,cj.eq undef,cj.eq undef,cj.eq _]
     ·rfl
     ·refine aE ?_ ?_
      ·intro wD E sD;refine ab G G ?_;exact a01
      refine aE ?_ ?_
      ·intro wD E sD;refine ab G G ?_;exact a01
      refine aE ?_ ?_
      ·intro wD E sD;refine au (bm G ⟨_,G⟩ G ?_);exact a01
      refine aE ?_ ?_
      ·intro wD E sD;refine au (aY b4 G G ti Tg G G ?_);exact a01
      refine aE ?_ ?_
      ·intro wD E sD;refine au (aR dR G G G (ch sD Xf) G ?_);exact a01
      refine aE ?_ ?_
      ·intro wD E sD;refine au ?_;refine aP G G UT (nz (M:=M1) (NG.le Tg sD.le)) (λr wc h=>?_);obtain⟨rfl,rfl⟩:=h;exact ad ⟨G,G,_,G,congrArg (λn:Nat=>Value.int .i64 n) Nr,aV⟩
      refine aE ?_ ?_
      ·intro wD E sD;refine au (au (cx G G G ?_));exact a01
      refine aE ?_ ?_
      ·intro wD E sD;refine au (au (ab G G ?_));refine ad ⟨G,G,_,G,?_,aV⟩;exact congrArg Value.bool (decide_eq_false UU)
      refine aE ?_ ?_
      ·intro wD E sD;refine au ?_;exact a13
      refine aE ?_ ?_
      ·intro wD E sD;refine au (au ?_);exact a13
      refine aE ?_ ?_
      ·intro wD E sD;refine au (au ?_);exact a13
      refine aE ?_ ?_
      ·intro wD E sD;refine au (au ?_);exact a13
      refine aE ?_ ?_
      ·intro wD E sD;refine au ?_;exact a13
      refine aE ?_ ?_
      ·intro wD E sD;refine au (au (au (au ?_)));exact a13
      refine aE ?_ ?_
      ·intro wD E sD;refine au ?_;exact a13
      refine aE ?_ ?_
      ·intro wD E sD;refine au (au (au ?_));exact a13
      refine aE ?_ ?_
      ·intro wD E sD;refine au (au (aB G G G ?_));exact a01
      exact rI
     ·intro wD4 rE;refine au (au (au (au (au (au (au (au (au (au (au (au ?_)))))))))));refine au (au (au (au (au ?_))));replace S4:=S4.aw rE;replace UE:=rE.aF UE;replace hT4:=rE.aF hT4;replace NG:=NG.le Tg rE.le;have Wy:=S4.lt pH;refine jF G (cN (aL (T.aQ (ab G G (ab G G (bm G ⟨_,G⟩ G (aY b4 G G ti Tg G G (aR dR G G G Xf G ?_))))))));refine aP G G UT (nz (M:=M1) NG) (λr wc h=>?_);obtain⟨rfl,rfl⟩:=h;refine bg (v':= .int .i64 (((l.length+7)/8:Nat):Int)) (congrArg (λn:Nat=>Value.int .i64 n) Nr) (fe G G G (ad ?_));refine bE G (λc6=>?_) (λc6=>?_)
      ·refine T.aQ (ab G G (ab G G (bm G ⟨_,G⟩ G (aY b4 G G kU Tg G G ?_))));refine cv (M:=M1) kU G G UE G G BY (λw7 hb7 s7=>?_);change w7.heap[bc]? =some (.cells #[p,.int .i64 k,.slice none 0 0,.int .i64 (eW l i),.int .i64 E7] 323 (0,0))at hb7;refine bm G ⟨_,G⟩ G (aY b4 G G I3 Tg G G ?_);refine cv (M:=M1) I3 G G hb7 G G BY (λw8 hb8 s8=>?_);change w8.heap[bc]? =some (.cells #[p,.int .i64 k,.slice none 0 0,.int .i64 2147483648,.int .i64 E7] 323 (0,0))at hb8;refine ad (T.aQ (Rg.aZ G G (aJ ?_)));have he:tf l i to=(l.length:Int):=by unfold tf;rw[if_neg c1,TE hm (n:=8*n) q0 hlo]
       rw[he];have S7:=((s1.aw S4).eI a30 Ez).trans ((s7.trans s8 (λ_ _ h=>h))) (λ_ _ h=>h);exact aK rfl rfl ⟨by rw[rv (rl _)],S7.back,p,.slice none 0 0,k,E7,yC,by rw[rv (rl _)];exact hb8,(hp.le Tg S7.back.le),by rw[IW (rl _)];exact gZ,by omega,hk,λh=>by omega,λ_ h=>by omega⟩
      ·exfalso;omega
theorem oL {M:aM} {w0:World} {bc:Nat} {l:List Po} {i:Int} (h:Cu 323 l i M w0 bc) (hM:Lt M w0) (hm:eP (-1) l=true) (sO:∀p∈l,p.2.length<=1099511627776) (tN:(eJ (-1) l).length<=1099511627776) (N4:l.length<=1099511627776):
  Spec Tryz.prog 164 #[.pointer (some ⟨bc,0,none⟩)] w0 (λv' w'=>v'= .int .i64 (eW l (mS l i))/\Step M w0 M w' (λb=>b=bc)/\Cu 323 l (mS l i) M w' bc):=by
 obtain⟨p,u,k,E7,yC,hb,hp,hu,hi,hk,Ot,qt⟩:=id h;have hdr:=wF hm i;refine bh (args:=[_]) (fn:=Tryz.f164) Tryz.func164 G (n:=11) Tryz.ntmps164 (T.aQ (Rg.aZ G G (T.aQ (ab G G (ab G G (bm G ⟨_,G⟩ G (aY b4 G G I3 Tg G G (aR al G G G Xf G ?_))))))));refine bu G G G q0 (Rg.min2 G G G ?_);have hn:tf l i (min (eW l i+1) 2147483648)=mS l i:=QW hm hi;refine aP G G US (pN (to:=min (eW l i+1) 2147483648) h hM hm sO tN N4 q0) (λr w1 h1=>?_);rw[hn]at h1;obtain⟨rfl,s1,h1⟩:=h1;refine Rg.aZ G G (aJ ?_);exact aK G G ⟨G,s1,h1⟩
end Go.K
namespace Go.K
open Go.Proofs
namespace TKErsA
theorem anl:TI Tryz.prog 213 (.pointer none) 1 8:=by unfold TI;kernel_rfl
theorem ZN:TI Tryz.prog 323 (.agg #[(.pointer none),(.int .i64 0),(.slice none 0 0),(.int .i64 0),(.int .i64 0)]) 5 56:=by unfold TI;kernel_rfl
theorem ZO:placesOf Tryz.prog 323=[(0,1),(1,1),(2,1),(3,1),(4,1)].map some:=by kernel_rfl
theorem UI:Enters Tryz.prog 155:=enters Tryz.func155 rfl Tg
theorem anm:Enters Tryz.prog 218:=enters Tryz.func218 rfl Tg
theorem ann:Enters Tryz.prog 219:=enters Tryz.func219 rfl Tg
end TKErsA
open TKErsA
set_option maxRecDepth 10000
theorem GC {M:aM} (w0:World) (hM:Lt M w0):
  Spec Tryz.prog 219 #[.pointer none] w0 (λv' w'=>∃bc,v'= .pointer (some ⟨bc,0,none⟩)/\w0.heap.size<=bc/\Step M w0 (ins M bc) w' aC/\Cu 323 [] (-1) (ins M bc) w' bc):=by
 refine bh (args:=[_]) (fn:=Tryz.f219) Tryz.func219 G (n:=12) Tryz.ntmps219 (T.aQ (Rg.aZ G G (aL (T.aQ (ab G G (Rg.JZ dR G G G (ad (T.aiW G (G) ?_))))))));refine aH ?_;refine aP G G UI (xe (l:=[]) hM gZ (λp h=>by cases h) Tg Tg Tg) (λr2 w2 hc=>?_);obtain⟨s2,fa,_⟩:=hc;obtain⟨p,rfl,hp⟩:=fa rfl;obtain⟨q,rfl⟩:=hp.mC;refine ab rfl rfl (cI rfl rfl rfl (cI rfl rfl rfl (Rg.aZ rfl rfl (T.aQ (ab rfl rfl (dw (places:=[(0,1),(1,1),(2,1),(3,1),(4,1)]) b4 ZN ZO rfl ⟨_,_,rfl,rfl,_,_,rfl,rfl,_,_,rfl,rfl,rfl⟩ (out:=[_,_,.slice none 0 0,_,.int .i64 0]) ⟨0,[_],rfl,rfl,by simp[Value.cells],1,[_],rfl,rfl,by simp[Value.cells],3,[_],rfl,rfl,by simp[Value.cells],rfl⟩ ?_))))));refine nS M G G (λbc w3 h1 TB hS s3=>?_);refine Rg.aZ G G (aJ ?_);exact aK G G ⟨bc,G,by have:=s2.size;omega,s2.aw s3,.pointer (some q),.slice none 0 0,-1,0,.inl rfl,hS,hp.le Tg s3.le,gZ,by decide,by decide,λ_=>rfl,λh=>by omega⟩
theorem GD {M:aM} {v:Value} {l:List Po} (w0:World) (hM:Lt M w0) (h:cO RT.li M w0 v (lr l)\/(v= .pointer none/\l=[])):Spec Tryz.prog 219 #[v] w0 (λv' w'=>∃bc,v'= .pointer (some ⟨bc,0,none⟩)/\w0.heap.size<=bc/\Step M w0 (ins M bc) w' aC/\Cu 323 l (-1) (ins M bc) w' bc):=by
 rcases h with h|⟨rfl,rfl⟩
 ·obtain⟨q,rfl⟩:=h.mC;exact Ms h
 ·exact GC w0 hM
theorem uW {M:aM} {s:Se} {ls:List (List Po)} {t:Fd} {v0:Value} (w0:World) (hM:Lt M w0) (hs:cO RT.se M w0 v0 s) (QS:Io s.2.2.1) (hls:s.2.2.2=ls.map lr) (xg:s.2.2.1.length=ls.length) (h1:t.1.length<=140737488355328) (h2:t.2.length<=140737488355328):
  Spec Tryz.prog 163 #[v0,kv t] w0 (λv' w'=>∃bc,v'= .pointer (some ⟨bc,0,none⟩)/\w0.heap.size<=bc/\Step M w0 (ins M bc) w' aC/\Cu 323 (UR s.2.2.1 ls (dv t)) (-1) (ins M bc) w' bc):=by
 refine bh (args:=[_,_]) (fn:=Tryz.f163) Tryz.func163 G (n:=19) Tryz.ntmps163 ?_;have S:Step M w0 M w0 aC:=aV;refine T.aQ ?_;refine ef (A:=RT.fd) G G hM (DO h1 h2) G (λu0 w1 dG s0 _=>?_);replace hs:=hs.le Tg s0.le;replace hM:=s0.lt hM;have:=S.size;replace S:=S.aw s0;refine Rg.aZ G G (aL ?_);apply T.draw (M:=M) mixed [cj.eq v0,cj.eq v0,cj.ptr ((RT.di).ptr) s.2.2,cj.ptr RT.di s.2.2,cj.eq (kv t),cj.eq (sv (dv t)),(cj.mk' (λv w=>∃p,v= .tuple #[p,.bool (decide (dv t∈s.2.2.1))]/\xZ s.2.2 (dv t) M p w) (fun⟨p,h1,h2⟩ s=>⟨p,h1,h2.step s⟩)),(cj.mk' (λv w=>∃p,v= .tuple #[p,.bool (decide (dv t∈s.2.2.1))]/\xZ s.2.2 (dv t) M p w) (fun⟨p,h1,h2⟩ s=>⟨p,h1,h2.step s⟩)),(cj.mk' (λv w=>xZ s.2.2 (dv t) M v w) (λh s=>h.step s)),cj.eq (.bool (decide (dv t∈s.2.2.1))),(cj.mk' (λv w=>xZ s.2.2 (dv t) M v w) (λh s=>h.step s)),cj.eq (.bool (decide (dv t∈s.2.2.1)))]
 ·rfl
 ·refine aE ?_ ?_
  ·intro wD E sD;refine ab G G ?_;exact a01
  refine aE ?_ ?_
  ·intro wD E sD;refine au (bm G hs.mC G ?_);exact a01
  refine aE ?_ ?_
  ·intro wD E sD;refine au ?_;refine ao (M:=M) (A:=RT.se) (B:=(RT.di).ptr) Tryz.underlying215 G G anl Tg se2 G G Tg hs sD.le (λuf uR=>?_);exact a83
  refine aE ?_ ?_
  ·intro wD E sD;intro v2 yL;refine bB Tryz.underlying213 G G G G G (show cO ((RT.di).ptr) M wD v2 s.2.2 from yL) bS (λvd hvd=>?_);exact ad ⟨G,G,_,G,Kr.1 hvd,aV⟩
  refine aE ?_ ?_
  ·intro wD E sD;refine bN (M:=M) (A:=RT.fd) br G kF Tg G G G dG sD.le (λvt hvt=>?_);obtain rfl:=kQ hvt;exact a01
  refine aE ?_ ?_
  ·intro wD E sD;refine au ?_;refine aP G G E95 (Mp (t:=t) _ (sD.lt hM) h1 h2) (λr5 w5 hc=>?_);obtain⟨rfl,s5⟩:=hc;exact ad ⟨G,G,_,G,G,s5⟩
  refine aE ?_ ?_
  ·intro wD E sD;intro v3 uE;refine au (au ?_);refine aP rfl rfl anm (find_spec (k:=dv t) _ (sD.lt hM) (show cO RT.di M wD v3 s.2.2 from uE) QS (by rw[hls,bW];exact xg)) (λr6 w6 hc=>?_);obtain⟨s6,hr⟩:=hc;refine ad ⟨G,G,_,G,?_,s6⟩;rcases hr with⟨j,p,tl,rfl,h3,h4,h5⟩|⟨rfl,h3⟩
   ·exact⟨p,by rw[decide_eq_true (av h3)],.inl ⟨j,tl,h3,h4,h5⟩⟩
   ·exact⟨_,by rw[decide_eq_false h3],.inr ⟨rfl,h3⟩⟩
  refine aE ?_ ?_
  ·intro wD E sD;intro v6 oC;refine ab G G ?_;exact ad ⟨G,G,_,G,oC,aV⟩
  refine aE ?_ ?_
  ·intro wD E sD;intro v7 FP;obtain⟨p,rfl,hp⟩:=FP;refine cI G G G ?_;exact ad ⟨G,G,_,G,hp,aV⟩
  refine aE ?_ ?_
  ·intro wD E sD;intro v7 FP;obtain⟨p,rfl,hp⟩:=FP;refine cI G G G ?_;exact a01
  refine aE ?_ ?_
  ·intro wD E sD;intro v8 EH;intro v6 oC;refine au (au ?_);intro v2 yL;intro v3 uE;refine au (au ?_);intro v6 oC;intro v7 FP;intro v8 EH;refine aN G G ?_;exact ad ⟨G,G,_,G,EH,aV⟩
  refine aE ?_ ?_
  ·intro wD E sD;refine au ?_;intro v10 pJ;refine au (au ?_);intro v2 yL;intro v3 uE;refine au (au ?_);intro v6 oC;intro v7 FP;intro v8 EH;refine au ?_;intro v10 pJ;refine aN G G ?_;exact a01
  exact rI
 ·intro LI mI;refine au (au ?_);intro aeM KD;intro YX Ku;refine au (au ?_);intro awW asd;intro aen Qt;intro awX ase;refine au ?_;intro aeZ IY;refine au ?_;replace IY:xZ s.2.2 (dv t) M aeZ LI:=IY;have hF:=IY;replace hM:=mI.lt hM;replace S:=S.aw mI;replace hs:=hs.le Tg mI.le;replace dG:=dG.le Tg mI.le;refine T.aQ (ab G G ?_)
  refine aP G G ann (GD (l:=UR s.2.2.1 ls (dv t)) _ hM (by
   rcases hF with⟨j,tl,XO,wu,rW⟩|⟨h,jt⟩
   ·rw[hls,ek]at wu;obtain⟨l,hl1,rfl⟩:=Option.map_eq_some_iff.1 wu;exact .inl (by rw[QT QS.nodup XO hl1];exact rW)
   ·exact .inr ⟨h,Gx jt⟩)) (λr2 w2 hc=>?_)
  obtain⟨bc,rfl,hbc,s2,kh⟩:=hc;refine Rg.aZ G G (aJ ?_);exact aK G G ⟨bc,G,by have:=S.size;omega,S.aw s2,kh⟩
end Go.K
namespace Go.K
open Go.Proofs
namespace TKErsB
theorem UX:Enters Tryz.prog 163:=enters Tryz.func163 rfl Tg
theorem IZ:Enters Tryz.prog 164:=enters Tryz.func164 rfl Tg
end TKErsB
open TKErsB
set_option maxRecDepth 10000
structure OkC (l:List Po):Prop where
 may:eP (-1) l=true
 ps:∀p∈l,p.2.length<=1099511627776
 by_:(eJ (-1) l).length<=1099511627776
 ln:l.length<=1099511627776
theorem Q0 {L:List En} (hF:∀e∈L,iQ e.1) (hn:L.length<=1000000) (k:List UInt8):OkC (pk L k):=by
 have h1:=wW k L 0 hF;have uO:eP (-1) (pk L k)=true:=yO k L 0 (-1) hF q0 q0;have sO:∀p∈pk L k,p.2.length<=500:=λp hp=>(h1.2 p hp).2.2
 obtain⟨h2,h3⟩:=wY (pk L k) (-1) 500 q0 uO sO q0;have hl:(pk L k).length<=L.length:=h1.1;exact⟨uO,λp hp=>by have:=sO p hp;omega,by omega,by omega⟩
end Go.K
namespace Go.K
open Go.Proofs
namespace TKBldJ
theorem Mi:TI Tryz.prog 112 (.slice none 0 0) 1 24:=by unfold TI;kernel_rfl
theorem UL:TI Tryz.prog 114 (.agg #[(.slice none 0 0),(.slice none 0 0),(.slice none 0 0),(.slice none 0 0)]) 4 96:=by unfold TI;kernel_rfl
theorem kU:TI Tryz.prog 117 (.slice none 0 0) 1 24:=by unfold TI;kernel_rfl
theorem E48:Enters Tryz.prog 48:=enters Tryz.func48 rfl Tg
theorem E49:Enters Tryz.prog 49:=enters Tryz.func49 rfl Tg
theorem E50:Enters Tryz.prog 50:=enters Tryz.func50 rfl Tg
theorem E51:Enters Tryz.prog 51:=enters Tryz.func51 rfl Tg
theorem E52:Enters Tryz.prog 52:=enters Tryz.func52 rfl Tg
end TKBldJ
open TKBldJ
set_option maxRecDepth 10000
set_option maxHeartbeats 4000000 in
theorem I0 {M:aM} {L:List En} {v0:Value} (w0:World) (hM:Lt M w0) (hv:(RT.en.sl).V M w0 L v0) (hl:∀e∈L,∀f∈e.1.2,f.1.length<=900000/\f.2.length<=900000) (hn:L.length<=100000) (fa:BW (-1) L=true):
  Spec Tryz.prog 11 #[v0] w0 (λv w=>∃s,v= .tuple #[s,.int .i64 0]/\cO RT.se M w s (Gu (jB L))/\Step M w0 M w aC):=by
 have gv:=hM;have hF:=kB fa
 have hkn:(keysOf L).length<=500000000:=by
  have h1:=(pD L).nodup.length_le_of_subset (l₂:=jM L) (λx hx=>mO.1 hx);have:=xc hF;omega
 have DA:∀k∈keysOf L,k.length<=43:=λk hk=>xW hF k (mO.1 hk)
 refine bh (args:=[_]) (fn:=Tryz.f11) Tryz.func11 G (n:=63) Tryz.ntmps11 ?_;have S:Step M w0 M w0 aC:=aV;refine T.aQ (aN G G (Rg.aZ G G (T.aQ ?_)));refine aP G G E48 (P7 (Z:=λk=>w0.heap.size<=k) (B:=w0.heap.size) _ hM (bz _) (λk hk=>hk)) (λr1 w1 hc=>?_);obtain⟨M1,b1,rfl,_,ij,s1⟩:=hc;replace ij:=ij.L7 (Z':=λk=>w0.heap.size<=k/\k<w1.heap.size) (λc hc eZ=>⟨hc,eZ⟩);replace hv:=hv.le s1.le;replace hM:=s1.lt hM;have:=S.size;replace S:=S.aw s1;refine Rg.aZ G G (T.aQ ?_);refine ew M1 UL G (λgN Yo akC akD Fw zP=>?_);obtain⟨OY,zQ⟩:∃M',M'=ins M1 gN:=⟨_,rfl⟩;rw[<-zQ]at zP;have zR:OY gN:=by rw[zQ];exact .inl G
 change Yo.heap[gN]? =some (.cells #[.slice none 0 0,.slice none 0 0,.slice none 0 0,.slice none 0 0] _ _)at Fw;replace hv:=hv.le zP.le;replace ij:=ij.bP zP;replace hM:=zP.lt hM;have:=S.size;replace S:=S.aw zP;refine ad (aL (T.aQ (ab G G (bC eG G hv G (ab G G (ad (aX ?_)))))));refine dd (σ:=Nat×Value×Value) (λq=>[(4,.pointer (some ⟨b1,0,none⟩)),(5,.pointer (some ⟨gN,0,none⟩)),(12,v0),(13,.int .i64 (L.length:Int)),(14,.int .i64 (q.1:Int))]) (λq w=>∃M' words,Lt M' w/\Step M w0 M' w aC/\(RT.en.sl).V M' w L v0/\oI (ZP w0.heap.size gN q.2.1 q.2.2) M' w w0.heap.size b1 (L.take q.1) words (nA (-1) (L.take q.1))/\w.heap[gN]? =some (.cells #[q.2.1,q.2.2,.slice none 0 0,.slice none 0 0] 114 (0,0))/\M' gN/\Own (RT.int .i64) 3 M' w w0.heap.size q.2.1 ((L.take q.1).map (·.1.1))/\Own (RT.int .i64) 3 M' w w0.heap.size q.2.2 ((L.take q.1).map (·.2))/\kE q.2.1 q.2.2/\0<=words/\words<=500*(q.1:Int)/\q.1<=L.length) (λq=>L.length-q.1) (0,.slice none 0 0,.slice none 0 0) a56 ?_ ?_
 ·exact⟨_,0,hM,S,hv,ij.L7 (Z':=ZP w0.heap.size gN (.slice none 0 0) (.slice none 0 0)) (λc hc eZ=>⟨hc.1,(λh=>by have:=hc.2;omega),(λh=>by cases h),(λh=>by cases h)⟩),Fw,zR,eL _ _ _ _ _,eL _ _ _ _ _,kE.nil _,by omega,by omega,a8 _⟩
 ·clear hM S hv ij;rintro⟨i,vi,vs⟩ w ⟨M2,words,hM,S,hv,ij,g2,dV,nH,nP,Uj,hw1,hw2,hi⟩;dsimp only at ij g2 nH nP Uj hw2 hi ⊢;refine T.aQ (cx G G G (ad (aL ?_)));refine bE G (λc4=>?_) (λc4=>?_)
  ·refine aS (aL (aX (T.aQ ?_)));refine cC eG Hx G G G hv bS q0 (λu5 e LG lP=>?_);rw[ar]at LG;obtain⟨WI,ZU⟩:=QQ fa LG;have hem:=av LG;refine bN (A:=RT.en) ed G Hx Tg G G G lP bS (λv5 pA=>?_);obtain⟨hr1,Bu⟩:=ZI pA;refine pT (A:=RT.en) (M:=M2) Hx G G G G G Xf bS hM (λaeq aw3 uP GF aw4=>?_);have:=ae g2;replace dV:=(GF.mem _ this).2 dV;replace g2:=GF.aF g2;replace hv:=hv.le GF.le;replace nH:=nH.bP GF;replace nP:=nP.bP GF;replace ij:=ij.bP GF;replace hM:=GF.lt hM;have:=S.size;replace S:=S.aw GF;refine ad (aL (T.aQ (ab G G ?_)));refine bN (A:=RT.en) ed G Hx Tg G G G uP bS (λv6 oC=>?_);refine aP G G E49 (P9 (Z:=ZP w0.heap.size gN vi vs) _ hM (λk hk=>⟨by have:=S.size;omega,λh=>by have:=ae g2;omega,λh=>by have:=(nH.base k h).2;omega,λh=>by have:=(nP.base k h).2;omega⟩) ij ah2 oC (hl e hem) (λx hx=>hF x (yo hx)) a11 q0) (λr6 w6 hc=>?_);obtain⟨M6,Qo,s6,rfl,_,XF⟩:=hc;replace ij:=XF WI;have Wj:(tQ e).length<=500:=(hF e hem).many;refine bg (v':= .int .i64 0) (by rw[WI]) ?_;replace nH:=nH.step s6 (λc hc h=>h.1.2.2.1 hc);replace nP:=nP.step s6 (λc hc h=>h.1.2.2.2 hc);replace dV:=(s6.mem _ (ae g2)).2 dV;replace g2:=s6.bU g2 (λh=>h.1.2.1 rfl);replace hv:=hv.le s6.le;replace uP:=uP.le Tg s6.le;replace S:=S.cr s6 (λk hk=>hk.1.1);replace hM:=Qo;rw[ZU.symm]at ij;refine Rg.aZ G G (T.aQ (ab G G (fm G G G (ad (T.NR G ((λh=>h rfl)) (aS ?_))))));have g2p:=g2;have ae0:=dV;have hvp:=hv;have ae1:=ij;have Q1:=nH;have Q2:=nP;have hMp:=hM;have Sp:=S;obtain⟨P6,hP6⟩:∃P6:Value->World->Prop,P6=λv w'=>Own (RT.int .i64) 3 (rN v) w' w0.heap.size v ((L.take i).map (·.1.1)++[e.1.1])/\(∀c,v.ownBlock=some c->w6.heap.size<=c\/vi.ownBlock=some c):=⟨_,rfl⟩
   have h6:∀{v:Value} {w w':World},P6 v w->Step M6 w M6 w' aC->P6 v w':=λ{v w w'} h s=>by rw[hP6]at h ⊢;exact⟨h.1.WG s (λ_ _ h=>h),h.2⟩
   apply T.WE (M:=M6) [0,1,2,3,4,5,6,7,8,9,10,11,13,12,14,15,16] 13 12 37 (.pointer (some ⟨gN,0,none⟩)) [(6,ng vi)] [cj.eq (.pointer (some ⟨gN,0,none⟩)),cj.eq vi,cj.ptr RT.dc e.1,cj.ptr (RT.int .i64) e.1.1,cj.eq (.int .i64 e.1.1),cj.V ((RT.int .i64).sl) [e.1.1],(cj.mk' (λv w=>P6 v w) (λh s=>h6 h s)),cj.eq (.pointer (some ⟨gN,1,none⟩)),cj.eq vs,cj.ptr (RT.int .i64) e.2,cj.eq (.int .i64 e.2),cj.V ((RT.int .i64).sl) [e.2],cj.eq (.pointer (some ⟨gN,0,none⟩))] [] mixed
   ·simp+decide only[Cd,wx,eV,sG,Br,Bs,nR,eY,j4,List.idxOf_cons,cond_true,cond_false,Nat.reduceBEq,Nat.reduceAdd,beq_self_eq_true];rfl
   ·rfl
   ·rfl
   ·rfl
   ·rfl
   ·rfl
   ·rfl
   ·rfl
   ·rfl
   ·rfl
   ·rfl
   ·rfl
   ·exact λρ w h _=>IS (size:=1) (o:=0) (o':=0) dF G G qc Tg (h (.tmp 5) _ G) w
   ·exact λg hg=>by cases hg
   ·intro p hp b hb;simp only[du,List.not_mem_nil,or_false]at hp;subst hp;exact nH.mut_ b hb
   ·exact λp hp=>by
     simp only[du,List.not_mem_nil,or_false]at hp;subst hp;show(6:Nat)≠12;decide
   ·exact rr.st (by exact⟨λ_ _ _ _=>trivial,⟨λ_ _ _ _=>trivial,⟨λ_ _ _ _=>trivial,⟨λ_ _ _ _=>trivial,⟨λ_ _ _ _=>trivial,⟨λ_ _ _ _=>trivial,⟨λp hp b hb=>(by simp at hp),⟨λ_ _ _ _=>trivial,⟨λ_ _ _ _=>trivial,⟨λ_ _ _ _=>trivial,⟨λ_ _ _ _=>trivial,⟨λ_ _ _ _=>trivial,⟨λ_ _ _ _=>trivial,trivial⟩⟩⟩⟩⟩⟩⟩⟩⟩⟩⟩⟩⟩)
   intro wR9 sA9;have Q3:=sA9 M6;have:=ae g2;replace dV:=(Q3.mem _ this).2 dV;replace g2:=Q3.aF g2;replace hv:=hv.le Q3.le;replace uP:=uP.le Tg Q3.le;replace nH:=nH.bP Q3;replace nP:=nP.bP Q3;replace ij:=ij.bP Q3;replace hM:=Q3.lt hM;have:=S.size;replace S:=S.aw Q3;have g2R:=g2;have ae2:=nH;have aw7:=nP;have hz6:=Q3.size;refine⟨?_,?_⟩
   ·refine ay ?_ ?_
    ·intro wD E sD;replace sD:Step M6 _ M6 wD (ng vi):=sD;refine aY (o':=0) dF G G qc Tg G G ?_;exact a01
    refine ay ?_ ?_
    ·intro wD E sD;replace sD:Step M6 _ M6 wD aC:=sD;refine au (aR az G G G (sD.aF g2R) G ?_);exact a01
    refine ay ?_ ?_
    ·intro wD E sD;replace sD:Step M6 _ M6 wD (ng vi):=sD;refine ao (M:=M6) (A:=RT.en) (B:=RT.dc) ed G G lD Tg XU G G Tg uP sD.le (λuf uR=>?_);exact a83
    refine ay ?_ ?_
    ·intro wD E sD;replace sD:Step M6 _ M6 wD (ng vi):=sD;intro v2 yL;refine ao (A:=RT.dc) (B:=RT.int .i64) aW G G I3 Tg dc0 G G Tg (show cO RT.dc M6 wD v2 e.1 from yL) bS (λuf uR=>?_);exact a83
    refine ay ?_ ?_
    ·intro wD E sD;replace sD:Step M6 _ M6 wD (ng vi):=sD;intro v3 uE;refine bV al G G (show cO (RT.int .i64) M6 wD v3 e.1.1 from uE) bS (λlJ=>?_);exact a01
    refine ay ?_ ?_
    ·intro wD E sD;replace sD:Step M6 _ M6 wD aC:=sD;refine au ?_;refine fz (A:=RT.int .i64) (hn:=by decide) (M:=M6) az I3 Tg G G (sD.lt hM) (hU hr1) (.inr ⟨G,G⟩) (λuS wS hS sS=>?_);exact ad ⟨G,G,_,G,hS,sS⟩
    refine ay ?_ ?_
    ·intro wD E sD;replace sD:Step M6 _ M6 wD aC:=sD;refine au ?_;intro v5 pA;replace sD:Step M6 wR9 M6 wD aC:=sD;refine Rg.nk (M:=M6) (base:=w0.heap.size) az I3 rfl rfl rfl rfl (ae2.bP sD) (show((RT.int .i64).sl).V M6 wD [e.1.1] v5 from pA) bS a11 a11 (by have:=sD.size;have:=S.size;omega) (λvA wA hoA sA hFA=>?_);exact ad ⟨G,G,_,G,by show P6 vA wA;rw[hP6];exact⟨hoA.lone,λc hc=>(hFA c hc).elim (λh=> .inl (by have:=sD.size;omega)) .inr⟩,sA.back⟩
    refine ay ?_ ?_
    ·intro wD E sD;replace sD:Step M6 _ M6 wD (ng vi):=sD;refine aY (o':=1) dF G G qc Tg G G ?_;exact a01
    refine ay ?_ ?_
    ·intro wD E sD;replace sD:Step M6 _ M6 wD (ng vi):=sD;refine au (aR az G G G (sD.bU g2R (λh=>ae2.fK g2R Tg h)) G ?_);exact a01
    refine ay ?_ ?_
    ·intro wD E sD;replace sD:Step M6 _ M6 wD (ng vi):=sD;refine ao (M:=M6) (A:=RT.en) (B:=RT.int .i64) ed G G I3 Tg en1 G G Tg uP sD.le (λuf uR=>?_);exact a83
    refine ay ?_ ?_
    ·intro wD E sD;replace sD:Step M6 _ M6 wD (ng vi):=sD;intro v9 LS;refine bV al G G (show cO (RT.int .i64) M6 wD v9 e.2 from LS) bS (λlJ=>?_);exact a01
    refine ay ?_ ?_
    ·intro wD E sD;replace sD:Step M6 _ M6 wD (ng vi):=sD;refine au ?_;refine fz (A:=RT.int .i64) (hn:=by decide) (M:=M6) az I3 Tg G G (sD.lt hM) (hU Bu) (.inr ⟨G,G⟩) (λuS wS hS sS=>?_);exact ad ⟨G,G,_,G,hS,sS⟩
    refine ay ?_ ?_
    ·intro wD E sD;replace sD:Step M6 _ M6 wD (ng vi):=sD;refine au (au ?_);intro v2 yL;intro v3 uE;refine au ?_;intro v5 pA;intro v6 oC;refine au (au (aY (o':=0) dF G G qc Tg G G ?_));exact a01
    exact jS
   ·intro Wt BT;replace BT:Step M6 _ M6 Wt (ng vi):=BT;refine au (au ?_);intro aly Qb;intro axa ash;refine au ?_;intro axb asi;intro D7 KE;refine au (au ?_);intro axc asj;refine au ?_;intro ae3 I1;refine au ?_;replace KE:P6 D7 Wt:=KE;rw[hP6]at KE;obtain⟨Ag,hb9⟩:=KE;replace I1:((RT.int .i64).sl).V M6 Wt [e.2] ae3:=I1;have sX:Step M6 w6 M6 Wt (ng vi):=(Q3.eI a30 (λb h=>Q1.mut_ b h)).trans BT (λb _ h=>h);have anr:=Q2.step sX (λc hc h=>Uj c h hc);refine Rg.nk (M:=M6) (base:=w0.heap.size) az I3 rfl rfl rfl rfl anr I1 bS a11 a11 (by have:=Sp.size;have:=sX.size;omega) (λv12 LK ans lW ae4=>?_)
    have PI:∀c,D7.ownBlock=some c->vs.ownBlock≠some c:=λc hc hv=>by
     rcases hb9 c hc with h|h
     ·have:=(Q2.base c hv).2;omega
     ·exact Uj c h hv
    have ae5:=Ag.WG lW (λc hc h=>PI c hc h)
    have ae6:kE v12 D7:=λc hc UY=>by
     rcases ae4 c hc with h|h
     ·have:=(Ag.base c UY).2;omega
     ·exact PI c UY h
    have UW:∀c,v12.ownBlock=some c->w6.heap.size<=c\/vs.ownBlock=some c:=λc hc=>(ae4 c hc).elim (λh=> .inl (by have:=sX.size;omega)) .inr
    have sZ:Step M6 w6 (mh M6 v12) LK (λk=>ng vi k\/ng vs k):=(sX.eI (λ_ h=> .inl h) (λb h=>h.elim (Q1.mut_ b) (Q2.mut_ b))).trans lW (λb _ h=> .inr h);obtain⟨M12,ZV⟩:∃M',M'=mh (mh M6 v12) D7:=⟨_,rfl⟩;have sW:Step M6 w6 M12 LK (λk=>ng vi k\/ng vs k):=by rw[ZV];exact sZ.amU (λc hc=>⟨(ae5.base c hc).2,(hb9 c hc).elim .inl (λh=> .inr (.inr (Q1.mut_ c h)))⟩)
    have nH:=ae5.TP (M':=M12) (by rw[ZV];exact λb hb=> .inl hb);have nP:=ans.TP (M':=M12) (by rw[ZV];exact λb hb=> .inr (.inl hb));have dV:=(sW.mem _ (ae g2p)).2 ae0;have g2:=sW.bU g2p (λh=>h.elim (Q1.fK g2p Tg) (Q2.fK g2p Tg));have ij:=((ae1.L7 (Z':=λk=>ZP w0.heap.size gN vi vs k/\ZP w0.heap.size gN D7 v12 k) (λc hc eZ=>⟨hc,hc.1,hc.2.1,λh=>(hb9 c h).elim (λh=>by omega) hc.2.2.1,λh=>(UW c h).elim (λh=>by omega) hc.2.2.2⟩)).step sW (λk hk hz=>hk.elim hz.1.2.2.1 hz.1.2.2.2)).L7 (Z':=ZP w0.heap.size gN D7 v12) (λc hc _=>hc.2);have hv:=hvp.le sW.le;have S:=Sp.cr sW (λk hk=>hk.elim (λh=>(Q1.base k h).1) (λh=>(Q2.base k h).1));have hM:=sW.lt hMp;refine ad ⟨G,G,λh=>absurd G h,?_⟩;refine cv (M:=M12) qc rfl rfl g2 rfl (by obtain⟨_,_,he,_⟩:=nH.isSlice;rw[he];rfl) dV (λNy g14 jD=>?_);replace g14:Ny.heap[gN]? =some (.cells #[D7,vs,.slice none 0 0,.slice none 0 0] 114 (0,0)):=g14;replace nH:=nH.step jD (λc hc (h:c=gN)=>nH.fK g2 Tg (h▸hc));replace nP:=nP.step jD (λc hc (h:c=gN)=>nP.fK g2 Tg (h▸hc));replace dV:=(jD.mem _ (ae g2)).2 dV;replace ij:=ij.step jD (λk (hk:k=gN) hz=>hz.2.1 hk);replace hv:=hv.le jD.le;replace S:=S.cr jD (λk (hk:k=gN)=>by rw[hk];omega);replace hM:=jD.lt hM;clear g2;have g2:=g14;refine ad ⟨G,G,λh=>absurd G h,aY (o':=1) dF G G qc Tg G G (ad ⟨G,G,λh=>absurd G h,?_⟩)⟩;refine cv (M:=M12) qc rfl rfl g2 rfl (by obtain⟨_,_,he,_⟩:=nP.isSlice;rw[he];rfl) dV (λWx g16 IK=>?_);replace g16:Wx.heap[gN]? =some (.cells #[D7,v12,.slice none 0 0,.slice none 0 0] 114 (0,0)):=g16;replace nH:=nH.step IK (λc hc (h:c=gN)=>nH.fK g2 Tg (h▸hc));replace nP:=nP.step IK (λc hc (h:c=gN)=>nP.fK g2 Tg (h▸hc));replace dV:=(IK.mem _ (ae g2)).2 dV
    replace ij:=ij.step IK (λk (hk:k=gN) hz=>hz.2.1 hk);replace hv:=hv.le IK.le;replace S:=S.cr IK (λk (hk:k=gN)=>by rw[hk];omega);replace hM:=IK.lt hM;clear g2;have g2:=g16;refine ad ⟨G,G,λh=>absurd G h,nT (aH (bu G G G q0 (ab G G (ad ?_))))⟩;have et:L.take (i+1)=L.take i++[e]:=by rw[bY,LG,dp]
    rw[et]at ij;refine⟨G,(i+1,D7,v12),a56,?_,?_⟩
    ·exact⟨_,_,hM,S,hv,by rw[et];exact ij,g2,dV,by rw[et,dU];exact nH,by rw[et,dU];exact nP,ae6.symm,by omega,by dsimp only;omega,by dsimp only;omega⟩
    ·dsimp only;omega
  ·refine cN (T.aQ ?_);have hLi:L.take i=L:=bp q0;rw[hLi]at ij nH nP;refine ab G G ?_;refine aP G G E50 (Iv _ hM ij hF q0) (λrk w11 hc=>?_);obtain⟨CK,yB⟩:=hc;have:=ae g2;replace dV:=(yB.mem _ this).2 dV;replace g2:=yB.aF g2;replace hv:=hv.le yB.le;replace nH:=nH.bP yB;replace nP:=nP.bP yB;replace ij:=ij.bP yB;replace hM:=yB.lt hM;have:=S.size;replace S:=S.aw yB;refine aY (o':=2) dF G G rA Tg G G ?_;refine cv (M:=M2) rA G G g2 G (jL CK G G) dV (λFJ dD fZ=>?_);change FJ.heap[_]? =some (Obj.cells #[vi,vs,rk,.slice none 0 0] _ _)at dD;have:=ae g2;replace dV:=(fZ.mem _ this).2 dV;replace hv:=hv.le fZ.le;replace CK:=CK.le fZ.le;replace nH:=nH.step fZ (λc hc (h:c=gN)=>nH.fK g2 Tg (h▸hc));replace nP:=nP.step fZ (λc hc (h:c=gN)=>nP.fK g2 Tg (h▸hc));replace ij:=ij.stepT fZ a47;replace hM:=fZ.lt hM;have:=S.size;replace S:=S.trans fZ (λk hk h=>by have h:_=_:=h;subst h;first|(exfalso;omega)|(show _<=_;omega)|exact⟨by first|omega|assumption,(S.mem _ hk).1 ((fZ.mem _ (ae g2)).1 dV)⟩|exact .inl rfl|exact .inr rfl|exact .inr (.inl rfl)|exact .inr (.inr rfl)|exact .inr (.inr (.inl rfl))|exact rfl);have Pv:=dD;clear g2;have g2:=Pv;clear Pv;refine ad (aL (T.aQ (aY (o':=2) dF G G rA Tg G G (aR ax G G G g2 G (bg (v':=rk) G (bC ax G CK G (ab G G (ad (aX ?_)))))))));refine dd (σ:=Nat×Value) (λq=>[(4,.pointer (some ⟨b1,0,none⟩)),(5,.pointer (some ⟨gN,0,none⟩)),(44,rk),(45,.int .i64 ((keysOf L).length:Int)),(46,.int .i64 (q.1:Int))]) (λq w=>∃M',Lt M' w/\Step M w0 M' w aC/\oI (ZP w0.heap.size gN vi vs) M' w w0.heap.size b1 L words (nA (-1) L)/\w.heap[gN]? =some (.cells #[vi,vs,rk,q.2] 114 (0,0))/\M' gN/\Own (RT.int .i64) 3 M' w w0.heap.size vi (L.map (·.1.1))/\Own (RT.int .i64) 3 M' w w0.heap.size vs (L.map (·.2))/\Own ((RT.po).sl) 117 M' w w0.heap.size q.2 (((keysOf L).take q.1).map (pk L))/\(RT.str.sl).V M' w (keysOf L) rk/\q.1<=(keysOf L).length) (λq=>(keysOf L).length-q.1) (0,.slice none 0 0) a56 ?_ ?_
   ·exact⟨_,hM,S,ij,g2,dV,nH,nP,eL _ _ _ _ _,CK,a8 _⟩
   ·clear hM S ij g2 dV nH nP CK hv;rintro⟨i3,vl⟩ w ⟨M3,hM,S,ij,g2,dV,nH,nP,sk,CK,hi3⟩;dsimp only at g2 sk hi3 ⊢;refine T.aQ (cx G G G (ad (aL ?_)));refine bE G (λxS=>?_) (λxS=>?_)
    ·refine aS (aL (aX (T.aQ ?_)));refine cC ax I9 G G G CK bS q0 (λMu k ZW qY=>?_);rw[ar]at ZW;refine bB aA G G G G G qY bS (λvk hvk=>?_);obtain rfl:=dS hvk;refine Rg.aZ G G ?_;apply T.n4 4 [0,1] 2 aC mixed rfl rfl rfl rfl;intro Zk Qs;have qi:=Qs M3;have:=ae g2;replace dV:=(qi.mem _ this).2 dV;replace g2:=qi.aF g2;replace CK:=CK.le qi.le;replace nH:=nH.bP qi;replace nP:=nP.bP qi;replace sk:=sk.bP qi;replace ij:=ij.bP qi;replace hM:=qi.lt hM;have:=S.size;replace S:=S.aw qi;refine aY (o':=3) dF G G Mi Tg G G (Rg.dh (aR Tryz.underlying112 G G G (by first|assumption|exact ch qi Xf) G (Rg.dh (ab G G (Rg.dh (ab G G (Rg.dh (fL (⟨jo ⟨kj dF G Mi Tg,⟨gR G g2 (λh=>h),trivial⟩⟩,?_⟩)))))))));have kp:=kn aC Zk;refine aP G G E51 (Iw (k:=k) _ hM ij hF q0 (by have:=DA k (av ZW);omega)) (λr15 H7 hc=>?_);obtain⟨Hz,py⟩:=hc;have:=ae g2;replace dV:=(py.mem _ this).2 dV;replace g2:=py.aF g2;replace CK:=CK.le py.le;replace nH:=nH.bP py;replace nP:=nP.bP py;replace sk:=sk.bP py;replace ij:=ij.bP py;replace hM:=py.lt hM;have:=S.size;replace S:=S.aw py;refine(fun(kp:fG _ _ _)=>ad ⟨G,G,λ_=>kp,?_⟩) a02;refine fz (A:=((RT.po).sl)) (hn:=by decide) (M:=M3) Tryz.underlying112 kU Tg G G hM (Hz) (.inr ⟨G,G⟩) (λasl Wq AE j9=>?_);have:=ae g2;replace dV:=(j9.mem _ this).2 dV;replace g2:=j9.aF g2;replace CK:=CK.le j9.le
     replace Hz:=Hz.le j9.le;replace nH:=nH.bP j9;replace nP:=nP.bP j9;replace sk:=sk.bP j9;replace ij:=ij.bP j9;replace hM:=j9.lt hM;have:=S.size;replace S:=S.aw j9;refine(fun(kp:fG _ _ _)=>ad ⟨G,G,λ_=>kp,?_⟩) a02;refine dJ (M:=M3) (base:=w0.heap.size) Tryz.underlying112 kU rfl rfl rfl rfl sk AE bS a11 a11 (S.size) (λWK ae8 asm ZX sw=>?_);have:=ae g2;replace dV:=(sw.mem _ this).2 dV;replace g2:=sw.bU g2 (λh=>by first|exact sk.eS g2 h|exact sk.fK g2 Tg h|(have:=(sk.base _ h).1;omega));replace CK:=CK.le sw.le;replace Hz:=Hz.le sw.le;replace AE:=AE.le sw.le;replace nH:=nH.step sw (λb h1 h2=>nH.jy sk Tg h1 h2);replace nP:=nP.step sw (λb h1 h2=>nP.jy sk Tg h1 h2);replace ij:=ij.stepT sw a47;replace hM:=sw.lt hM;have:=S.size;replace S:=S.dX sw sk (bz _);replace sk:=ZX;refine ad ⟨G,G,λh=>absurd G h,aY (o':=3) dF G G Mi Tg G G (ad ⟨G,G,λh=>absurd G h,?_⟩)⟩;refine cv (M:=ae8) Mi rfl rfl g2 rfl (by obtain⟨_,_,he,_⟩:=sk.isSlice;rw[he];rfl) dV (λae9 WL qZ=>?_);change ae9.heap[_]? =some (Obj.cells #[vi,vs,rk,WK] _ _)at WL;have:=ae g2;replace dV:=(qZ.mem _ this).2 dV;replace CK:=CK.le qZ.le;replace Hz:=Hz.le qZ.le;replace AE:=AE.le qZ.le;replace nH:=nH.step qZ (λc hc (h:c=gN)=>nH.fK g2 Tg (h▸hc));replace nP:=nP.step qZ (λc hc (h:c=gN)=>nP.fK g2 Tg (h▸hc))
     replace sk:=sk.step qZ (λc hc (h:c=gN)=>sk.fK g2 Tg (h▸hc));replace ij:=ij.stepT qZ a47;replace hM:=qZ.lt hM;have:=S.size;replace S:=S.trans qZ (λk hk h=>by have h:_=_:=h;subst h;first|(exfalso;omega)|(show _<=_;omega)|exact⟨by first|omega|assumption,(S.mem _ hk).1 ((qZ.mem _ (ae g2)).1 dV)⟩|exact .inl rfl|exact .inr rfl|exact .inr (.inl rfl)|exact .inr (.inr rfl)|exact .inr (.inr (.inl rfl))|exact rfl);have Pv:=WL;clear g2;have g2:=Pv;clear Pv;refine ad ⟨G,G,λh=>absurd G h,nT (aH (bu G G G q0 (ab G G (ad ?_))))⟩;refine⟨G,(i3+1,WK),a56,?_,?_⟩
     ·exact⟨_,hM,S,ij,g2,dV,nH,nP,by rw[bY,ZW,dp,dU];exact sk,CK,by dsimp only;omega⟩
     ·dsimp only;omega
    ·refine cN (T.aQ (eC (vs:=[vi,vs,rk,vl]) dF G UL G G G g2 ?_));rw[bp q0]at sk;have hpa:RT.pa.V M _ (jB L) _:=alk (x:=jB L) (nH.close gv S (by show(L.map _).length<=_;rw[bW];omega)) (nP.close gv S (by show(L.map _).length<=_;rw[bW];omega)) (CK.le (lE gv S)) (sk.close gv S (by show((keysOf L).map _).length<=_;rw[bW];omega));replace S:=S.back;replace hM:=S.lt gv;refine aP G G E52 (IN (p:=jB L) _ hM hpa (UP hF q0)) (λr17 w17 hc=>?_);obtain⟨s17,afa,_⟩:=hc;obtain⟨sg,rfl,DD⟩:=afa (ZH fa q0);replace S:=S.aw s17;refine cI G G G (cI G G G (aN G G (Rg.aZ G G (aJ ?_))));exact fA G G G ⟨sg,G,DD,S⟩
end Go.K
namespace Go.K
open Go.Proofs
set_option maxRecDepth 10000
theorem xh {id:Int}:∀(fs:List Fd) (i:Nat) (out:List Fd),oA (id,out)=0->oA (id,oD id i out fs)=0
 |[],_,_,h=>h
 |x::fs,i,out,h=>by
  unfold oD
  split
  ·split
   ·rename_i h1;exact xh fs _ _ h1
   ·exact xh fs _ _ h
  ·exact h
theorem pP {id:Int}:∀(fs:List Fd) (i:Nat) (out:List Fd),tu out->tu (oD id i out fs)
 |[],_,_,h=>h
 |x::fs,i,out,h=>by
  unfold oD
  split
  ·rename_i hi
   split
   ·exact pP fs _ _ (h.snoc (zZ x hi))
   ·exact pP fs _ _ h
  ·exact h
theorem Mv (d:Dc):oA (pZ d)=0:=xh d.2 0 [] rfl
theorem GG (d:Dc):tu (pZ d).2:=pP d.2 0 [] (λx h=>by cases h)
theorem GH {e:En}:∀{L:List En} {last:Int},BW last (L++[e])=(BW last L&&decide (oJ (nA last L) e=0))
 |[],last=>by show(decide (oJ last e=0)&&true)=(true&&decide (oJ last e=0));rw[l1,dr]
 |x::L,last=>by rw[vW];show(decide (oJ last x=0)&&BW x.2 (L++[e]))=(decide (oJ last x=0)&&BW x.2 L&&decide (oJ (nA x.2 L) e=0));rw[GH (L:=L),Bool.and_assoc]
theorem AF {e:En}:∀{L:List En} {last:Int},nA last (L++[e])=e.2
 |[],_=>rfl
 |x::L,last=>by simp only[vW,nA];exact AF
theorem GI (l:List Dc) {a s:Int} (ha:0<=a) (hs:1<=s):∀k,BW (-1) (eO l a s k)=true/\nA (-1) (eO l a s k)<a+s*(k:Int)
 |0=>⟨rfl,by show(-1:Int)<_;simp;omega⟩
 |k+1=>by
  obtain⟨h1,h2⟩:=GI l ha hs k;have e1:a+s*((k+1:Nat):Int)=a+s*(k:Int)+s:=by rw[Int.natCast_add,Int.mul_add];simp;omega
  cases h:l[k]? with
  |none=>rw[Ae (List.getElem?_eq_none_iff.1 h),e1];exact⟨h1,by omega⟩
  |some d=>
   rw[Ad h,GH,AF,h1,e1]
   have:oJ (nA (-1) (eO l a s k)) (pZ d,a+s*(k:Int))=0:=by
    unfold oJ;rw[if_neg (λh=>h (Mv d)),if_neg (by show¬(a+s*(k:Int)<=_);omega)]
   exact⟨by rw[this];rfl,by show a+s*(k:Int)<_;omega⟩
theorem CL {l:List Dc} {a s:Int}:∀{k:Nat} {e:En},e∈eO l a s k->∃d,e.1=pZ d
 |0,e,h=>by cases h
 |k+1,e,h=>by
  rw[eO]at h;rcases dI.1 h with h|h
  ·exact CL h
  ·split at h
   ·rename_i d _;rw[dn.1 h];exact⟨d,G⟩
   ·cases h
theorem AG {l:List Dc} {a s:Int} {k:Nat}:∀e∈eO l a s k,∀f∈e.1.2,f.1.length<=900000/\f.2.length<=900000:=λe he f hf=>by
 obtain⟨d,hd⟩:=CL he;rw[hd]at hf;have:=GG d f hf;omega
theorem Q4:words [97]=[[97]]:=by
 have h:dN [97]=[97]:=by rw[kN (by simp)];simp[dec,Dx,ke,j8,l3]
 unfold words;rw[h];simp[eU];rfl
end Go.K

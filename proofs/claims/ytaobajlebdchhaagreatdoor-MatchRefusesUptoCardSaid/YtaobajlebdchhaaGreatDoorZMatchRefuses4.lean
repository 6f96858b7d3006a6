/- What the law 'MatchRefuses' needs of walks and plain Lean, part 4: nothing is assumed beyond the texts that it imports. -/
import Derived.KernelRfl
import Derived.Test.YtaobajlebdchhaaGreatDoorProg
import Derived.Test.YtaobajlebdchhaaGreatDoorZMatchRefuses1
import Derived.Test.YtaobajlebdchhaaGreatDoorZMatchRefuses2
import Derived.Test.YtaobajlebdchhaaGreatDoorZMatchRefuses3
set_option linter.unusedVariables false
set_option linter.unusedSimpArgs false
namespace Go.K
open Go.Proofs
set_option maxRecDepth 10000
theorem CS {M:aL} {w0:World} {v:Value} {b:List UInt8} {n:Nat} (hM:Lt M w0) (hv:(RT.u8.sl).V M w0 b v) (hb:b.length<=70368744177664) (hn:n<=9223372036854775807):
  Spec Tryz.prog 194 #[v,.int .i64 n] w0 (λv' w'=>∃M',Step M w0 M' w' aD/\Own RT.u8 5 M' w' w0.heap.size v' (b++put n)):=by
 have h9:=kL hn;refine a7 (args:=[_,_]) (fn:=Tryz.f194) Tryz.func194 G (n:=26) Tryz.ntmps194 (T.aP (Rg.aZ G G (T.aP (ab G G (ab G G ?_)))))
 first|refine bz bX rfl U3 rfl ?_|refine iV bX rfl U3 rfl ?_
 refine ab G G ?_
 first|refine bz bX rfl U3 rfl ?_|refine iV bX rfl U3 rfl ?_
 refine Rg.Gd bX I5 G G G G hv ⟨G,G⟩ (λa mv tc=>?_);refine Rg.aZ G G (aK (aX ?_));refine cY (σ:=Nat×Value×List UInt8) (λs=>[(0,s.2.1),(1,.int .i64 s.1)]) (λs w=>s.2.2++put s.1=b++put n/\∃M1,Lt M1 w/\Step M w0 M1 w aD/\Grow RT.u8 QZ 5 M1 w w0.heap.size s.2.1 s.2.2) (λs=>s.1) (n,_,b) a68 ?_ ?_
 ·exact⟨G,M,hM,aW,.inr ⟨a,G,tc,mv⟩⟩
 ·rintro⟨k,u0,acc⟩ w1 ⟨Aw,M1,oN,s1,hg⟩;dsimp only at Aw hg ⊢;have hlen:=congrArg List.length Aw;have xX:=Rk k;simp only[bM]at hlen;refine aK (T.aP (ab G G (ek G G G (ad ?_))));refine bF G (λc2=>?_) (λc2=>?_)
  ·refine aR (aX (T.aP (ab G G (ab G G (wh ak cU G G (Rg.or G G G (br (congrArg _ (Sg _)) ?_)))))));refine fw (A:=RT.u8) (hn:=by decide) (M:=M1) bX I5 QZ G G oN (Va.2 G) (.inr ⟨G,G⟩) (λu w2 hu s2=>?_);refine Rg.Ip (M:=M1) (base:=w0.heap.size) bX I5 G G G G (hg.le s2) hu bU (by simp) a11 a11 (dm s1.size s2.size) (λv3 M3 w3 QR s3=>?_);refine Rg.aZ G G (aM (ab G G (Rg.shr G G G q0 (br (congrArg _ (ai1 _)) (Rg.aZ G G ?_)))));refine⟨G,(k/128,v3,acc++[UInt8.ofNat (128+k%128)]),a68,?_,?_⟩
   ·exact⟨by rw[<-Aw,Gl (n:=k) q0];simp,M3,s3.lt (s2.lt oN),(s1.av s2).lM s3 (bu _),.inl QR⟩
   ·show k/128<k;omega
  ·refine cN (T.aP (ab G G (ab G G (wh ak cU G G (br (congrArg _ (G8 _)) ?_)))));refine fw (A:=RT.u8) (hn:=by decide) (M:=M1) bX I5 QZ G G oN (Va.2 G) (.inr ⟨G,G⟩) (λu w2 hu s2=>?_);refine Rg.Ip (M:=M1) (base:=w0.heap.size) bX I5 G G G G (hg.le s2) hu bU (by simp) a11 a11 (dm s1.size s2.size) (λv3 M3 w3 QR s3=>?_);refine Rg.aZ G G (aI (aF G G ⟨M3,(s1.av s2).lM s3 (bu _),?_⟩));rw[<-Aw,yi (n:=k) q0];exact QR
theorem Oy {M:aL} {w0:World} {v:Value} {b:List UInt8} {n:Nat} (hM:Lt M w0) (hv:(RT.u8.sl).V M w0 b v) (hb:b.length<=70368744177664) (hn:n<=9223372036854775807):
  Spec Tryz.prog 194 #[v,.int .i64 n] w0 (λv' w'=>Step M w0 M w' aD/\(RT.u8.sl).V M w' (b++put n) v'):=
 (CS hM hv hb hn).mono λ_ _ ⟨_,s,ho⟩=>⟨s.back,Own.close hM s ho (by have:=kL hn;simp;omega)⟩
theorem E1 {M:aL} {w0:World} {v:Value} {b:List UInt8} {at_:Int} (hv:(RT.u8.sl).V M w0 b v) (LA: -9223372036854775808<=at_/\at_<=9223372036854775807):
  Spec Tryz.prog 303 #[v,.int .i64 at_] w0 (λv' w'=>v'= .tuple #[.int .i64 (get b at_).1,.int .i64 (get b at_).2.1,.int .i64 (get b at_).2.2]/\w0=w'):=by
 have hlen:=cQ hv;refine a7 (args:=[_,_]) (fn:=Tryz.f303) Tryz.func303 G (n:=54) Tryz.ntmps303 (T.aP (aG G G (aG G G (Rg.aZ G G (aK (T.aP (ab G G (cy G G G ?_))))))));refine ab G G ?_;refine aO (g:=12) G (λiw=>?_) (λiw=>?_)
 ·obtain Xb:at_<0\/(b.length:Int)<at_:= .inl iw;refine aj G G G G (aj G G G G (aj G G G G (aj G G G G (aU G G G (ad (kA G (T.aP (aG G G (aG G G (aG G G ?_))))))))));refine ad (aI ?_);have iC:get b at_=(0,0,1):=by unfold get;rw[if_pos Xb]
  exact qV rfl rfl rfl rfl ⟨by rw[iC],rfl⟩
 ·refine ae G G (ab G G (ae G G (ab G G (ae G G ?_))))
  first|refine bz bX rfl U3 rfl ?_|refine iV bX rfl U3 rfl ?_
  refine ae G G (eN G G G (aA G G G (ad ?_)));refine bF G (λc1=>?_) (λc1=>?_)
  ·obtain Xb:at_<0\/(b.length:Int)<at_:= .inr c1;refine T.aP (aG G G (aG G G (Rg.aZ G G (aI ?_))));have iC:get b at_=(0,0,1):=by unfold get;rw[if_pos Xb]
   exact qV rfl rfl rfl rfl ⟨by rw[iC],rfl⟩
  ·refine aR (T.aP (Rg.aZ G G (aK (T.aP (ab G G (ab G G (ab G G ?_)))))))
   first|refine bz bX rfl U3 rfl ?_|refine iV bX rfl U3 rfl ?_
   refine ab G G (bC G G G q0 (Rg.min2 G G G ?_));refine Rg.Dv bX I5 G G G G hv q0 (λu hu=>?_);rw[show(min (b.length:Int) (at_+9)).toNat=min b.length (at_.toNat+9)from by omega,VB]at hu;have iC:get b at_=match nA ((b.drop at_.toNat).take 9) 0 0 with|some (n,k)=>((n:Int),at_+k,0)|none=>(0,0,2):=by unfold get;rw[if_neg q0];rfl
   have sM:((b.drop at_.toNat).take 9).length<=9:=by rw[bJ];omega
   generalize (b.drop at_.toNat).take 9=bs at hu iC sM
   first|refine bz bX rfl U3 rfl ?_|refine iV bX rfl U3 rfl ?_
   refine ab G G (ad (aX ?_));refine cY (σ:=Nat×Nat) (λs=>[(1,.int .i64 at_),(25,u),(26,.int .i64 bs.length),(27,.int .i64 s.1),(7,.int .i64 s.2)]) (λs w=>w0=w/\s.1<=bs.length/\s.2<128^s.1/\nA (bs.drop s.1) s.1 s.2=nA bs 0 0) (λs=>bs.length-s.1) (0,0) a05 ?_ ?_
   ·exact⟨rfl,bp _,by decide,rfl⟩
   ·rintro⟨k,m⟩ w1 ⟨rfl,hk,hm,hg⟩;dsimp only at hk hm hg ⊢;refine T.aP (cy G G G (ad (aK ?_)));refine bF G (λc5=>?_) (λc5=>?_)
    ·refine aR (aK (aX (T.aP (ab G G ?_))));refine cB (M:=M) bX I5 G G G U3 (by repeat (first|exact bN _ _|refine bg (bO U3) ?_)) q0 (λasc Sh E2 anT=>?_);refine Rg.Vd (M:=M) cU G G U3 (by repeat (first|exact bN _ _|refine bg (bO U3) ?_)) ?_;refine aG G G (Rg.aZ G G (T.aP (ab G G (ab G G (Rg.andNot G G G (br (congrArg _ (E0 _)) (Rg.uO cU ak G G q0 (ab G G (Rg.Vb G G G q0 ?_)))))))));refine Rg.shl G G G q0 (Rg.or G G G (br (congrArg _ (Ox k m _ q0 hm q0)) (Rg.aZ G G (T.aP (ab G G (cy G G G (ad ?_)))))));refine bF G (λc8=>?_) (λc8=>?_)
     ·refine aK (T.aP (ab G G (fi G G G (ab G G ?_))));refine aO (g:=44) G (λCT=>?_) (λCT=>?_)
      ·refine ae G G (ab G G (ae G G (eN G G G (aU G G G (ad ?_)))));refine bF G (λc9=>?_) (λc9=>?_)
       ·refine cN (T.aP (aG G G (aG G G (Rg.aZ G G (aI ?_)))))
        have hr:nA bs 0 0=none:=by
         rw[<-hg]
         first
         |(rw[nB (by simpa using E2),if_pos q0,if_pos q0])
         |(rw[fG q0];rfl)
        exact qV rfl rfl rfl rfl ⟨by rw[iC,hr],rfl⟩
       ·refine aR (T.aP (ab G G (ab G G (ab G G (bC G G G q0 (bC G G G q0 (aG G G (aG G G (Rg.aZ G G ?_)))))))));refine aI ?_;have hr:nA bs 0 0=some (m+Sh.toNat%128*128^k,k+1):=by rw[<-hg,nB (by simpa using E2),if_pos q0,if_neg q0]
        exact qV rfl rfl rfl rfl ⟨by rw[iC,hr];simp;omega,rfl⟩
      ·refine aj G G G G (aj G G G G (aA G G G (ad (jJ G (aR (T.aP (ab G G (ab G G (ab G G (bC G G G q0 ?_))))))))));refine bC G G G q0 (aG G G (aG G G (Rg.aZ G G (aI ?_))));have hr:nA bs 0 0=some (m+Sh.toNat%128*128^k,k+1):=by rw[<-hg,nB (by simpa using E2),if_pos q0,if_neg q0]
       exact qV rfl rfl rfl rfl ⟨by rw[iC,hr];simp;omega,rfl⟩
     ·refine aR (aM (bC G G G q0 (ab G G (ad ?_))));refine⟨G,(k+1,m+Sh.toNat%128*128^k),a05,?_,?_⟩
      ·refine⟨rfl,by simp only;omega,?_,?_⟩
       ·have:=Nat.mul_le_mul_right (128^k) (show Sh.toNat%128<=127 from by omega);simp only[Nat.pow_succ];omega
       ·rw[nB (by simpa using E2),if_neg q0]at hg;exact hg
      ·simp only;omega
    ·refine cN (T.aP (aG G G (aG G G (Rg.aZ G G (aI ?_)))))
     have hr:nA bs 0 0=none:=by
      rw[<-hg]
      first
      |(rw[nB (by simpa using E2),if_pos q0,if_pos q0])
      |(rw[fG q0];rfl)
     exact qV rfl rfl rfl rfl ⟨by rw[iC,hr],rfl⟩
theorem AN {M:aL} {w0:World} {v u:Value} {b:List UInt8} {l:List Int} (hM:Lt M w0) (hv:(RT.u8.sl).V M w0 b v) (hu:((RT.int .i64).sl).V M w0 l u) (hb:b.length+9*(l.length+1)<=70368744177664):
  Spec Tryz.prog 195 #[v,u] w0 (λv' w'=>∃M' x,Step M w0 M' w' aD/\v'= .tuple #[x,.int .i64 (if fT (-1) l then 0 else 1)]/\Own RT.u8 5 M' w' w0.heap.size x (if fT (-1) l then b++eR l else[])):=by
 have xG:=kL (n:=l.length) q0;refine a7 (args:=[_,_]) (fn:=Tryz.f195) Tryz.func195 G (n:=31) Tryz.ntmps195 (T.aP (aG G G (Rg.aZ G G (T.aP (ab G G (ab G G (bz ax G hu G ?_)))))));refine aQ G G VS (CS (M:=M) hM hv q0 q0) (λub wb Dt=>?_);obtain⟨Mb,sb,gK⟩:=Dt;refine Rg.aZ G G (T.aP (Rg.aZ G G (aK (T.aP (ab G G (bz ax G hu G (ab G G ?_)))))));refine ad (aX ?_);refine cY (σ:=Nat×Int×Value×List UInt8) (λs=>[(0,s.2.2.1),(6,.int .i64 s.2.1),(13,u),(14,.int .i64 l.length),(15,.int .i64 s.1)]) (λs w=>fT (-1) l=fT s.2.1 (l.drop s.1)/\(fT (-1) l=true->s.2.2.2++ll s.2.1 (l.drop s.1)=b++eR l)/\s.1<=l.length/\ -1<=s.2.1/\s.2.2.2.length<=b.length+9*(s.1+1)/\∃M1,Lt M1 w/\Step M w0 M1 w aD/\Own RT.u8 5 M1 w w0.heap.size s.2.2.1 s.2.2.2) (λs=>l.length-s.1) (0,-1,_,b++put l.length) a05 ?_ ?_
 ·exact⟨rfl,λ_=>by simp[eR],bp _,by simp only;omega,by simp;omega,Mb,sb.lt hM,sb,gK⟩
 ·rintro⟨k,last,u0,acc⟩ w1 ⟨hr,Aw,hk,Sf,hal,M1,oN,s1,ho⟩;dsimp only at hr Aw hk Sf hal ho ⊢;refine T.aP (cy G G G (ad (aK ?_)));refine bF G (λc4=>?_) (λc4=>?_)
  ·refine aR (aK (aX (T.aP ?_)));obtain⟨x,hx⟩:∃x,l[k]? =some x:=⟨_,an q0⟩;have hxr:=LM hu hx;refine cB ax I3 G G G (hu.le (s1.back).le) bU q0 (λXc Oz abS BE=>?_);obtain rfl:Oz=x:=aJ (abS.symm.trans ae0);refine bT ak G G BE bU (λ_=>?_);refine Rg.aZ G G (aK (T.aP (ab G G (ab G G (fN G G G (ad ?_))))));refine bF G (λc6=>?_) (λc6=>?_)
   ·refine T.aP (aG G G (Rg.aZ G G (aI ?_)));have hrf:fT (-1) l=false:=by rw[hr,gq hx,decide_eq_false q0,eP]
    exact fc rfl rfl rfl ⟨M1,_,s1,by rw[hrf];rfl,by rw[hrf];exact eJ _ _ _ _ _⟩
   ·refine aR (T.aP (ab G G (ab G G (ab G G (Rg.Vc G G G (Rg.Vc G G G ?_))))));have hpx:=kL (n:=(Oz-last-1).toNat) q0;refine br (v':= .int .i64 (((Oz-last-1).toNat:Nat):Int)) (by rw[IntKind.wrap_i64,IntKind.wrap_i64];congr 1;omega) ?_;have hfz:=s1.freeze (v:=u0) (λb hb=>(ho.base b hb).1);refine aQ G G VS (CS (M:=rm M1 u0) (oN.rm u0) (ho.view q0) q0 q0) (λub wb Dt=>?_);obtain⟨Mb2,QS,ai2⟩:=Dt;refine Rg.aZ G G (aM (ab G G (Rg.aZ G G (aM (bC G G G q0 (ab G G (ad ?_)))))));refine⟨G,(k+1,Oz,ub,acc++put (Oz-last-1).toNat),a05,?_,?_⟩
    ·refine⟨?_,λh=>?_,by simp only;omega,by simp only;omega,by simp only[bM];omega,Mb2,QS.lt (oN.rm u0),hfz.av QS,ai2.j2 s1.size⟩
     ·rw[hr,gq hx,decide_eq_true q0,dr]
     ·rw[<-Aw h,JO hx];simp
    ·simp only;omega
  ·refine cN (T.aP (ab G G (aG G G (Rg.aZ G G (aI ?_)))));have hrt:fT (-1) l=true:=by rw[hr,fG q0];rfl
   have ha:=Aw hrt;rw[fG q0,ll,fV]at ha;exact fc rfl rfl rfl ⟨M1,_,s1,by rw[hrt];rfl,by rw[hrt,<-ha];exact ho⟩
theorem zp {M:aL} {w0:World} {v u:Value} {b:List UInt8} {l:List Int} (hM:Lt M w0) (hv:(RT.u8.sl).V M w0 b v) (hu:((RT.int .i64).sl).V M w0 l u) (hb:b.length+9*(l.length+1)<=70368744177664):
  Spec Tryz.prog 195 #[v,u] w0 (λv' w'=>∃x,Step M w0 M w' aD/\v'= .tuple #[x,.int .i64 (if fT (-1) l then 0 else 1)]/\(RT.u8.sl).V M w' (if fT (-1) l then b++eR l else[]) x):=
 (AN hM hv hu hb).mono λ_ _ ⟨_,x,s,h,ho⟩=>⟨x,s.back,h,Own.close hM s ho (by
  split
  next hr=>
   have xG:=kL (n:=l.length) q0;have gj:∀x∈l,x<=9223372036854775807:=λx hx=>by obtain⟨i,hi⟩:=bK.1 hx;exact(LM hu hi).2
   have:=yj l (-1) QZ gj hr;simp only[eR,bM];omega
  next=>simp)⟩
theorem BF {M:aL} {w0:World} {be bb ba:Nat} {v:Value} {b:List UInt8} {at_:Int} (he:w0.heap[be]? =some (.cells #[.int .i64 0] 32 (0,0))) (hb:w0.heap[bb]? =some (.cells #[v] 293 (0,0))) (ha:w0.heap[ba]? =some (.cells #[.int .i64 at_] 3 (0,0))) (fh:be≠ba) (Xd:M be) (LB:M ba) (hv:(RT.u8.sl).V M w0 b v) (LA: -9223372036854775808<=at_/\at_<=9223372036854775807):
  Spec Tryz.prog 316 #[.pointer (some ⟨be,0,none⟩),.pointer (some ⟨bb,0,none⟩),.pointer (some ⟨ba,0,none⟩)] w0 (λv' w'=>v'= .int .i64 (get b at_).1/\w'.heap[be]? =some (.cells #[.int .i64 (get b at_).2.2] 32 (0,0))/\w'.heap[ba]? =some (.cells #[.int .i64 (get b at_).2.1] 3 (0,0))/\Step M w0 M w' (λk=>k=be\/k=ba)):=by
 refine a7 (args:=[_,_,_]) (fn:=Tryz.f316) Tryz.func316 G (n:=15) Tryz.ntmps316 (T.aP (Rg.aZ G G (aK (T.aP (aN wo G G G U3 G (eV G G G (ad ?_)))))));refine bF G (λc1=>?_) (λc1=>?_)
 ·exact absurd G c1
 ·refine aR (T.aP (Rg.aZ G G (T.aP (aN bX G G G U3 G (aN ak G G G U3 G ?_)))));refine aQ G G aak (E1 hv LA) (λr w1 h1=>?_);obtain⟨rfl,rfl⟩:=h1;refine ab G G (cD G G G (cD G G G (cD G G G (aG G G ?_))));refine cn (M:=M) I3 G G ha G G LB (λw1 h1 s1=>?_);refine cn (M:=M) I32 G G (s1.bW he fh) G G Xd (λw2 h2 s2=>?_);refine ad (T.aP (ab G G (Rg.aZ G G (aI (aF G G ⟨G,h2,s2.bW h1 (Ne.symm fh),?_⟩)))));exact(s1.ew (λb hb=> .inr hb) (λb hb=>by rcases hb with rfl|rfl<;>assumption)).trans s2 (λb _ hb=> .inl hb)
theorem zq {M:aL} {w0:World} {v:Value} {b:List UInt8} {at_:Int} (hM:Lt M w0) (hv:(RT.u8.sl).V M w0 b v) (LA: -9223372036854775808<=at_/\at_<=9223372036854775807) (sM:b.length<=1099511627776):
  Spec Tryz.prog 304 #[v,.int .i64 at_] w0 (λv' w'=>∃x,v'= .tuple #[x,.int .i64 (gE b at_).2.2,.int .i64 (gE b at_).1]/\((RT.int .i64).sl).V M w' (gE b at_).2.1 x/\Step M w0 M w' aD):=by
 refine a7 (args:=[_,_]) (fn:=Tryz.f304) Tryz.func304 G (n:=48) Tryz.ntmps304 (T.aP ?_);refine np M G G (λbb w1 ME ase hB s1=>?_);rw[iR hv]at hB;refine np (ins M bb) G G (λba w2 hba asf hA s2=>?_);refine aG G G (aG G G (Rg.aZ G G (T.aP ?_)));refine eB (ins (ins M bb) ba) I32 G (λbe w3 hbe asg hE s3=>?_);refine cn (M:=ins (ins (ins M bb) ba) be) I32 G G hE G G (.inl G) (λw4 hE4 s4=>?_);have z1:=s1.size;have z2:=s2.size;have z3:=s3.size;have z4:=s4.size;have S4:Step M w0 (ins (ins (ins M bb) ba) be) w4 aD:=((s1.av s2).av s3).ck s4 (λk hk=>by subst hk;omega);have hB4:=s4.bW (s3.aE (s2.aE hB)) (show bb≠be by omega);have hA4:=s4.bW (s3.aE hA) (show ba≠be by omega);refine ad (T.aP (jj (xs:=[]) G G G (Rg.aZ G G (T.aP (Rg.aZ G G (T.aP ?_))))));refine Rg.aZ G G (aK (T.aP (ab G G ?_)));refine uI (first:=[]) (xs:=[]) G G G aal (BF (M:=ins (ins (ins M bb) ba) be) hE4 hB4 hA4 q0 (.inl G) (.inr (.inl G)) (hv.le S4.le) LA) (λr w5 h5=>?_);obtain⟨rfl,hE5,hA5,s5⟩:=h5;have z5:=s5.size;have S5:=S4.ck s5 (λk hk=>by omega);have hB5:=s5.bW hB4 q0;obtain⟨hn0,hn1,hn2,hn3⟩:=ou b at_;refine br (v':= .int .i64 (((get b at_).1.toNat:Nat):Int)) (by rw[An hn0]) (Rg.aZ G G (aX ?_));refine cY (σ:=Nat×Int×Value×List Int×Int×Int) (λs=>[(7,.pointer (some ⟨be,0,none⟩)),(3,.pointer (some ⟨ba,0,none⟩)),(8,.func (.func 316) [].toArray [.pointer (some ⟨be,0,none⟩),.pointer (some ⟨bb,0,none⟩),.pointer (some ⟨ba,0,none⟩)].toArray),(9,s.2.2.1),(10,.int .i64 s.2.1),(11,.int .i64 s.1)]) (λs w=>(s.1:Int)<=9223372036854775807/\(s.2.2.2.2.1=0->gE b at_=andThen s.2.2.2.1 (il b s.1 s.2.2.2.2.2 s.2.1))/\(s.2.2.2.2.1≠0->gE b at_=(s.2.2.2.2.1,[],0))/\(s.2.2.2.2.1=0-> -1<=s.2.1/\s.2.1<=4611686018427387904/\(s.2.2.2.1.length:Int)<=s.2.2.2.2.2/\s.2.2.2.2.2<=b.length)/\s.2.2.2.1.length<=b.length+1/\∃M1,Lt M1 w/\Step M w0 M1 w aD/\w4.heap.size<=w.heap.size/\M1 be/\M1 ba/\Own (RT.int .i64) 3 M1 w w4.heap.size s.2.2.1 s.2.2.2.1/\w.heap[be]? =some (.cells #[.int .i64 s.2.2.2.2.1] 32 (0,0))/\w.heap[ba]? =some (.cells #[.int .i64 s.2.2.2.2.2] 3 (0,0))/\w.heap[bb]? =some (.cells #[v] 293 (0,0))) (λs=>s.1) ((get b at_).1.toNat,-1,_,[],(get b at_).2.2,(get b at_).2.1) ae1 ?_ ?_
 ·refine⟨by have:=Be b at_;simp only;omega,λh=>?_,λh=>?_,λh=>?_,by simp,_,S5.lt hM,S5,z5,.inl rfl,.inr (.inl rfl),eJ _ _ _ _ _,hE5,hA5,hB5⟩
  ·unfold gE;rw[if_neg a84];exact(DI _ (JP b _ _ _)).symm
  ·unfold gE;rw[if_pos h]
  ·have:=uY h;simp only[jQ];omega
 ·rintro⟨many,last,u0,acc,e,a1⟩ wl ⟨hmb,Um,Y3,fY,hal,M1,oN,S,zl,Xd,LB,ho,hE,hA,hB⟩;dsimp only at hmb Um Y3 fY hal ho hE hA hB ⊢;refine aK (T.aP (ab G G (eN G G G (ab G G ?_))));refine aO (g:=18) G (λyK=>?_) (λyK=>?_)
  ·refine ae G G (aN wo G G G U3 G (ae G G (fi G G G (aU G G G (ad ?_)))));refine bF G (λc6=>?_) (λc6=>?_)
   ·refine aR (aK (aX (T.aP (ab G G ?_))));refine uI (first:=[]) (xs:=[]) rfl rfl rfl aal (BF (M:=M1) (by rw[c6]at hE;exact hE) hB hA q0 Xd LB (hv.le S.le) (by have:=fY c6;omega)) (λr w6 h6=>?_);obtain⟨rfl,hE6,I2,s6⟩:=h6;have z6:=s6.size;have S6:=S.ck s6 (λk hk=>by omega);have I6:=s6.bW hB q0;have ze:=ho.step s6 (λk hk h=>by have:=(ho.base k hk).1;omega);have OA:=s6.lt oN;obtain⟨hn0,hn1,hn2,hn3⟩:=ou b a1;obtain⟨pJ,Cc,hk3,hk4⟩:=fY c6;refine Rg.aZ G G (aK (T.aP (aN wo G G G U3 G (fi G G G (ab G G ?_)))));refine aO (g:=28) G (λCT=>?_) (λCT=>?_)
    ·refine ae G G (ab G G (ae G G (ab G G (ae G G (jB G G G q0 (ae G G (jB G G G q0 (ae G G (eN G G G (aU G G G (ad ?_)))))))))));refine bF G (λc9=>?_) (λc9=>?_)
     ·refine aM ?_;refine cn (M:=M1) I32 G G hE6 G G Xd (λw7 hE7 s7=>?_);have z7:=s7.size;replace S6:=S6.ck s7 (λk hk=>by subst hk;omega);replace I6:=s7.bW I6 (show bb≠be by omega);replace I2:=s7.bW I2 (show ba≠be by omega);replace ze:=ze.step s7 (λk hk h=>by have:=(ho.base k hk).1;omega);replace OA:=s7.lt OA;replace hE6:=hE7;refine ad (T.aP (ab G G (ab G G (Rg.xY G G G (Rg.xY G G G (Rg.aZ G G (aM (ab G G (ab G G ?_)))))))));refine fw (A:=RT.int .i64) (hn:=by decide) (M:=M1) ax I3 QZ G G OA (gJ (sy _)) (.inr ⟨G,G⟩) (λu w8 hu s8=>?_);refine dF (M:=M1) (base:=w4.heap.size) ax I3 rfl rfl rfl rfl (ze.bQ s8) hu bU a11 a11 (by have:=s8.size;omega) (λv9 M9 w9 ho9 s9=>?_);have z8:=s8.size;have z9:=s9.size;have jz:∀k,k<w4.heap.size->¬mA u0 k:=λk hk h=>by have:=(ho.base k h).1;omega
      have OB:=s9.bW (s8.aE hE6) (jz be q0);have hA9:=s9.bW (s8.aE I2) (jz ba q0);have hB9:=s9.bW (s8.aE I6) (jz bb q0);have S9:=(S6.av s8).dU s9 (ze.bQ s8) q0;have hM9:=s9.lt (s8.lt OA);have OC:M9 be:=(s9.mem be q0).2 Xd;have OD:M9 ba:=(s9.mem ba q0).2 LB;refine Rg.aZ G G (aM (ab G G (jB G G G q0 (Rg.aZ G G ?_))));refine⟨G,(many-1,(IntKind.i64.wrap (last+IntKind.i64.wrap ((get b a1).1+1))),v9,acc++[(IntKind.i64.wrap (last+IntKind.i64.wrap ((get b a1).1+1)))],(if(get b a1).2.2=0/\4611686018427387904-last-1<(get b a1).1 then 2 else(get b a1).2.2),(get b a1).2.1),a52,?_,?_⟩
      ·have hx:(get b a1).2.2=0->¬4611686018427387904-last-1<(get b a1).1->(IntKind.i64.wrap (last+IntKind.i64.wrap ((get b a1).1+1)))=last+1+(get b a1).1:=λh1 h2=>by rw[jU ((get b a1).1+1) q0,jU _ q0];omega
       have YY:many=(many-1)+1:=by omega
       have zr:=Um c6;rw[YY]at zr;refine⟨by simp only;omega,λh=>?_,λh=>?_,λh=>?_,by have:=fY c6;simp only[bM,cH,jQ];omega,M9,hM9,S9,by omega,OC,OD,ho9,?_,hA9,hB9⟩
       ·dsimp only at h ⊢;have h3:(get b a1).2.2=0/\¬4611686018427387904-last-1<(get b a1).1:=by split at h<;>omega
        rw[zr,ot acc h3.1 h3.2,hx h3.1 h3.2]
       ·dsimp only at h ⊢;rw[zr]
        split
        ·rename_i h4;rw[uZ h4.1 h4.2];rfl
        ·rename_i h4
         have h5:(get b a1).2.2≠0:=by intro h6;rw[if_neg h4]at h;exact h h6
         rw[rV h5];unfold andThen;rw[if_pos h5]
       ·dsimp only at h ⊢;have h3:(get b a1).2.2=0/\¬4611686018427387904-last-1<(get b a1).1:=by split at h<;>omega
        have:=uY h3.1;rw[hx h3.1 h3.2];simp only[bM,cH,jQ];omega
       ·dsimp only
        first
        |(rw[if_pos ⟨CT,c9⟩];exact OB)
        |(rw[if_neg (λh=>c9 h.2)];exact OB)
        |(rw[if_neg (λh=>CT h.1)];exact OB)
      ·simp only;omega
     ·refine aR (T.aP (ab G G (ab G G (Rg.xY G G G (Rg.xY G G G (Rg.aZ G G (aM (ab G G (ab G G ?_)))))))));refine fw (A:=RT.int .i64) (hn:=by decide) (M:=M1) ax I3 QZ G G OA (gJ (sy _)) (.inr ⟨G,G⟩) (λu w8 hu s8=>?_);refine dF (M:=M1) (base:=w4.heap.size) ax I3 rfl rfl rfl rfl (ze.bQ s8) hu bU a11 a11 (by have:=s8.size;omega) (λv9 M9 w9 ho9 s9=>?_);have z8:=s8.size;have z9:=s9.size;have jz:∀k,k<w4.heap.size->¬mA u0 k:=λk hk h=>by have:=(ho.base k h).1;omega
      have OB:=s9.bW (s8.aE hE6) (jz be q0);have hA9:=s9.bW (s8.aE I2) (jz ba q0);have hB9:=s9.bW (s8.aE I6) (jz bb q0);have S9:=(S6.av s8).dU s9 (ze.bQ s8) q0;have hM9:=s9.lt (s8.lt OA);have OC:M9 be:=(s9.mem be q0).2 Xd;have OD:M9 ba:=(s9.mem ba q0).2 LB;refine Rg.aZ G G (aM (ab G G (jB G G G q0 (Rg.aZ G G ?_))));refine⟨G,(many-1,(IntKind.i64.wrap (last+IntKind.i64.wrap ((get b a1).1+1))),v9,acc++[(IntKind.i64.wrap (last+IntKind.i64.wrap ((get b a1).1+1)))],(if(get b a1).2.2=0/\4611686018427387904-last-1<(get b a1).1 then 2 else(get b a1).2.2),(get b a1).2.1),a52,?_,?_⟩
      ·have hx:(get b a1).2.2=0->¬4611686018427387904-last-1<(get b a1).1->(IntKind.i64.wrap (last+IntKind.i64.wrap ((get b a1).1+1)))=last+1+(get b a1).1:=λh1 h2=>by rw[jU ((get b a1).1+1) q0,jU _ q0];omega
       have YY:many=(many-1)+1:=by omega
       have zr:=Um c6;rw[YY]at zr;refine⟨by simp only;omega,λh=>?_,λh=>?_,λh=>?_,by have:=fY c6;simp only[bM,cH,jQ];omega,M9,hM9,S9,by omega,OC,OD,ho9,?_,hA9,hB9⟩
       ·dsimp only at h ⊢;have h3:(get b a1).2.2=0/\¬4611686018427387904-last-1<(get b a1).1:=by split at h<;>omega
        rw[zr,ot acc h3.1 h3.2,hx h3.1 h3.2]
       ·dsimp only at h ⊢;rw[zr]
        split
        ·rename_i h4;rw[uZ h4.1 h4.2];rfl
        ·rename_i h4
         have h5:(get b a1).2.2≠0:=by intro h6;rw[if_neg h4]at h;exact h h6
         rw[rV h5];unfold andThen;rw[if_pos h5]
       ·dsimp only at h ⊢;have h3:(get b a1).2.2=0/\¬4611686018427387904-last-1<(get b a1).1:=by split at h<;>omega
        have:=uY h3.1;rw[hx h3.1 h3.2];simp only[bM,cH,jQ];omega
       ·dsimp only
        first
        |(rw[if_pos ⟨CT,c9⟩];exact OB)
        |(rw[if_neg (λh=>c9 h.2)];exact OB)
        |(rw[if_neg (λh=>CT h.1)];exact OB)
      ·simp only;omega
    ·refine aj G G G G (aj G G G G (aj G G G G (aj G G G G (aj G G G G (aA G G G (ad (jJ G (aR (T.aP (ab G G ?_))))))))));refine ab G G (Rg.xY G G G (Rg.xY G G G (Rg.aZ G G (aM (ab G G (ab G G ?_))))));refine fw (A:=RT.int .i64) (hn:=by decide) (M:=M1) ax I3 QZ G G OA (gJ (sy _)) (.inr ⟨G,G⟩) (λu w8 hu s8=>?_);refine dF (M:=M1) (base:=w4.heap.size) ax I3 rfl rfl rfl rfl (ze.bQ s8) hu bU a11 a11 (by have:=s8.size;omega) (λv9 M9 w9 ho9 s9=>?_);have z8:=s8.size;have z9:=s9.size;have jz:∀k,k<w4.heap.size->¬mA u0 k:=λk hk h=>by have:=(ho.base k h).1;omega
     have OB:=s9.bW (s8.aE hE6) (jz be q0);have hA9:=s9.bW (s8.aE I2) (jz ba q0);have hB9:=s9.bW (s8.aE I6) (jz bb q0);have S9:=(S6.av s8).dU s9 (ze.bQ s8) q0;have hM9:=s9.lt (s8.lt OA);have OC:M9 be:=(s9.mem be q0).2 Xd;have OD:M9 ba:=(s9.mem ba q0).2 LB;refine Rg.aZ G G (aM (ab G G (jB G G G q0 (Rg.aZ G G ?_))));refine⟨G,(many-1,(IntKind.i64.wrap (last+IntKind.i64.wrap ((get b a1).1+1))),v9,acc++[(IntKind.i64.wrap (last+IntKind.i64.wrap ((get b a1).1+1)))],(if(get b a1).2.2=0/\4611686018427387904-last-1<(get b a1).1 then 2 else(get b a1).2.2),(get b a1).2.1),a52,?_,?_⟩
     ·have hx:(get b a1).2.2=0->¬4611686018427387904-last-1<(get b a1).1->(IntKind.i64.wrap (last+IntKind.i64.wrap ((get b a1).1+1)))=last+1+(get b a1).1:=λh1 h2=>by rw[jU ((get b a1).1+1) q0,jU _ q0];omega
      have YY:many=(many-1)+1:=by omega
      have zr:=Um c6;rw[YY]at zr;refine⟨by simp only;omega,λh=>?_,λh=>?_,λh=>?_,by have:=fY c6;simp only[bM,cH,jQ];omega,M9,hM9,S9,by omega,OC,OD,ho9,?_,hA9,hB9⟩
      ·dsimp only at h ⊢;have h3:(get b a1).2.2=0/\¬4611686018427387904-last-1<(get b a1).1:=by split at h<;>omega
       rw[zr,ot acc h3.1 h3.2,hx h3.1 h3.2]
      ·dsimp only at h ⊢;rw[zr]
       split
       ·rename_i h4;rw[uZ h4.1 h4.2];rfl
       ·rename_i h4
        have h5:(get b a1).2.2≠0:=by intro h6;rw[if_neg h4]at h;exact h h6
        rw[rV h5];unfold andThen;rw[if_pos h5]
      ·dsimp only at h ⊢;have h3:(get b a1).2.2=0/\¬4611686018427387904-last-1<(get b a1).1:=by split at h<;>omega
       have:=uY h3.1;rw[hx h3.1 h3.2];simp only[bM,cH,jQ];omega
      ·dsimp only
       first
       |(rw[if_pos ⟨CT,c9⟩];exact OB)
       |(rw[if_neg (λh=>c9 h.2)];exact OB)
       |(rw[if_neg (λh=>CT h.1)];exact OB)
     ·simp only;omega
   ·refine cN (aK (T.aP (aN wo G G G U3 G (eV G G G (ad ?_)))));refine bF G (λwM=>?_) (λwM=>?_)
    ·refine aK ?_;apply uJ mixed rfl rfl;intro W5 Oq;have qQ:=Oq M1;refine aN wo G G G (by first|assumption|exact cg qQ U3) G (Rg.de (aG G G (Rg.de (aG G G (Rg.de (aG G G (Rg.de (fF (aI ?_)))))))));have hr:=Y3 wM;exact qV rfl rfl rfl rfl ⟨_,by rw[hr]<;>rfl,by rw[hr];exact iQ,(S.av qQ).back⟩
    ·refine aR (aK ?_);apply uJ mixed rfl rfl;intro Xe OE;have pA:=OE M1;refine ab G G (Rg.de (aN ak G G G (by first|assumption|exact cg pA U3) G (Rg.de (aG G G (Rg.de (aG G G (Rg.de (aG G G (Rg.de (fF (aI ?_)))))))))));have hz:many=0:=by omega
     have hr:=Um q0;rw[hz,ym]at hr;simp only[andThen,ne_eq,not_true_eq_false,if_false,fV]at hr;have S15:=S.av pA;refine qV rfl rfl rfl rfl ⟨_,by rw[hr]<;>rfl,?_,S15.back⟩;rw[hr];exact Own.close hM S15 ((ho.bQ pA).j2 q0) ai5
  ·refine aj G G G G (aj G G G G (aA G G G (ad (jJ G (cN (aK (T.aP (aN wo G G G U3 G (eV G G G (ad ?_))))))))));refine bF G (λwM=>?_) (λwM=>?_)
   ·refine aK ?_;apply uJ mixed rfl rfl;intro W5 Oq;have qQ:=Oq M1;refine aN wo G G G (by first|assumption|exact cg qQ U3) G (Rg.de (aG G G (Rg.de (aG G G (Rg.de (aG G G (Rg.de (fF (aI ?_)))))))));have hr:=Y3 wM;exact qV rfl rfl rfl rfl ⟨_,by rw[hr]<;>rfl,by rw[hr];exact iQ,(S.av qQ).back⟩
   ·refine aR (aK ?_);apply uJ mixed rfl rfl;intro Xe OE;have pA:=OE M1;refine ab G G (Rg.de (aN ak G G G (by first|assumption|exact cg pA U3) G (Rg.de (aG G G (Rg.de (aG G G (Rg.de (aG G G (Rg.de (fF (aI ?_)))))))))));have hz:many=0:=by omega
    have hr:=Um q0;rw[hz,ym]at hr;simp only[andThen,ne_eq,not_true_eq_false,if_false,fV]at hr;have S15:=S.av pA;refine qV rfl rfl rfl rfl ⟨_,by rw[hr]<;>rfl,?_,S15.back⟩;rw[hr];exact Own.close hM S15 ((ho.bQ pA).j2 q0) ai5
theorem I7 {M:aL} {w0:World} {v:Value} {x:Li} (hv:cM RT.li M w0 v x) {k:Int}:
  Spec Tryz.prog 272 #[v,.int .i64 k] w0 (λv' w'=>v'= .bool (Mi x.2.1.length k)/\w0=w'):=by
 refine a7 (args:=[_,_]) (fn:=Tryz.f272) Tryz.func272 G (n:=16) Tryz.ntmps272 (T.aP (Rg.aZ G G (T.aP (ab G G (ek G G G (ab G G ?_))))));refine aO (g:=7) G (λiw=>?_) (λiw=>?_)
 ·refine ae G G (ab G G (ae G G (ab G G (ae G G (a8 G (cM.lV U3) G (ae G G ?_))))));refine ao (M:=M) (A:=RT.li) (B:=(RT.bl).sl) eo G G Gt QZ (li1) G G QZ U3 (by repeat (first|exact bN _ _|refine bg (bO U3) ?_)) (λasp anZ=>?_);refine ae G G ?_;refine bD (M:=M) fg G G G G G U3 (by repeat (first|exact bN _ _|refine bg (bO U3) ?_)) (λabZ OF=>?_);refine ae G G ?_
  first|refine bz fg rfl U3 rfl ?_|refine iV fg rfl U3 rfl ?_
  refine ae G G (cy G G G (aU G G G (Rg.aZ G G (aI ?_))))
  first
  |exact a71
  |exact a69
 ·refine aj G G G G (aj G G G G (aj G G G G (aj G G G G (aj G G G G (aj G G G G (aj G G G G (aA G G G (Rg.aZ G G (aI ?_)))))))))
  first
  |exact a71
  |exact a69
theorem mQ {M:aL} {w0:World} {v:Value} {x:Li} (hv:cM RT.li M w0 v x):
  Spec Tryz.prog 221 #[v] w0 (λv' w'=>v'= .int .i64 x.2.1.length/\w0=w'):=by
 refine a7 (args:=[_]) (fn:=Tryz.f221) Tryz.func221 G (n:=8) Tryz.ntmps221 (T.aP (Rg.aZ G G (T.aP (ab G G (a8 G (cM.lV U3) G ?_)))));refine ao (M:=M) (A:=RT.li) (B:=(RT.bl).sl) eo G G Gt QZ (li1) G G QZ U3 (by repeat (first|exact bN _ _|refine bg (bO U3) ?_)) (λWL EN=>?_);refine bD (M:=M) fg G G G G G U3 (by repeat (first|exact bN _ _|refine bg (bO U3) ?_)) (λWM I1=>?_)
 first|refine bz fg rfl U3 rfl ?_|refine iV fg rfl U3 rfl ?_
 refine Rg.aZ G G (aI ?_);exact ak2
theorem Kx {M:aL} {w0:World} {v:Value} {x:Li} (hv:cM RT.li M w0 v x) {k:Int}:
  Spec Tryz.prog 222 #[v,.int .i64 k] w0 (λv' w'=>v'= .int .i64 (DJ x.2.1 k)/\w0=w'):=by
 refine a7 (args:=[_,_]) (fn:=Tryz.f222) Tryz.func222 G (n:=17) Tryz.ntmps222 (T.aP (Rg.aZ G G (aK (T.aP (ab G G (ab G G ?_))))));refine aQ G G aaj (I7 hv (k:=k)) (λr w1 h1=>?_);obtain⟨rfl,rfl⟩:=h1;refine ib G G (br (v':= .bool (decide (¬(0<=k/\k<x.2.1.length)))) (by unfold Mi;rw[decide_not]) (ad ?_));refine bF G (λc1=>?_) (λc1=>?_)
 ·refine T.aP (Rg.aZ G G (aI ?_));exact aF G G ⟨by unfold DJ Mi;rw[if_neg (by simpa using c1)],rfl⟩
 ·refine aR (T.aP (ab G G (a8 G (cM.lV U3) G ?_)));refine ao (M:=M) (A:=RT.li) (B:=(RT.bl).sl) eo G G Gt QZ (li1) G G QZ U3 (by repeat (first|exact bN _ _|refine bg (bO U3) ?_)) (λRS zd=>?_);refine bD (M:=M) fg G G G G G U3 (by repeat (first|exact bN _ _|refine bg (bO U3) ?_)) (λab0 Un=>?_);refine ab G G ?_;obtain⟨b,hb⟩:∃b,x.2.1[k.toNat]? =some b:=⟨_,an q0⟩;refine cB fg AE G G G U3 bU q0 (λXf Xg OG OH=>?_);obtain rfl:Xg=b:=aJ (OG.symm.trans hb);refine ao (M:=M) (A:=RT.bl) (B:=RT.int .i64) lG G G I3 QZ (bl2) G G QZ U3 (by repeat (first|exact bN _ _|refine bg (bO U3) ?_)) (λasq an0=>?_);refine bT (M:=M) ak G G U3 (by repeat (first|exact bN _ _|refine bg (bO U3) ?_)) (λan1=>?_);refine Rg.aZ G G (aI ?_);exact aF G G ⟨by unfold DJ Mi;rw[if_pos (by simpa using c1),b4,hb];rfl,rfl⟩
theorem Ha {M:aL} {w0:World} {v:Value} {b:List UInt8} {at_ ahead:Int} (hM:Lt M w0) (hv:(RT.u8.sl).V M w0 b v) (LA: -9223372036854775808<=at_/\at_<=9223372036854775807) (hah: -9223372036854775808<=ahead/\ahead<=9223372036854775807) (sM:b.length<=1099511627776):
  Spec Tryz.prog 273 #[v,.int .i64 at_,.int .i64 ahead] w0 (λv' w'=>∃p,v'= .tuple #[p,.int .i64 (re b at_ ahead).2.1,.int .i64 (re b at_ ahead).2.2]/\RT.po.V M w' (re b at_ ahead).1 p/\Step M w0 M w' aD):=by
 refine a7 (args:=[_,_,_]) (fn:=Tryz.f273) Tryz.func273 G (n:=38) Tryz.ntmps273 (T.aP ?_);refine eB M iL G (λb0 w1 yH asr hB s1=>?_);have oN:=s1.lt hM;have j9:=hv.le s1.le;refine aG G G (Rg.aZ G G (T.aP (ab G G (ab G G ?_))));refine aQ G G aak (E1 j9 LA) (λr w2 h2=>?_);obtain⟨rfl,rfl⟩:=h2;have ya:=Be b at_;obtain⟨hn0,hn1,hn2,hn3⟩:=ou b at_;refine ab G G (cD G G G (cD G G G (cD G G G (aG G G (aG G G (Rg.aZ G G (aK (T.aP (ab G G ?_)))))))));refine eV G G G (ad ?_);refine bF G (λc2=>?_) (λc2=>?_)
 ·refine T.aP (dN (places:=[(0,1),(1,1)]) ch iL Ry G G (out:=[.int .i64 0,.slice none 0 0]) G (ab G G ?_));refine dP (M:=ins M b0) iL G G (by intro u hu;simp at hu;rcases hu with rfl|rfl<;>rfl) rfl rfl hB (.inl rfl) (λw3 hB3 s3=>?_);refine aG G G (Rg.aZ G G (aI ?_));have lh:=s1.size;have S:Step M w0 M w3 aD:=(s1.ck s3 (λk hk=>by subst hk;omega)).back;refine Mg G G ch G iL G hB3 G G ⟨_,by unfold re;rw[if_pos c2]<;>rfl,?_,S⟩;unfold re;rw[if_pos c2];exact fz (gJ (x:=0) q0) iQ G G G G
 ·refine aR (T.aP (ab G G (ab G G ?_)));have fY:=uY (b:=b) (at_:=at_) q0;refine aQ G G ag7 (zq (M:=ins M b0) oN j9 q0 sM) (λr w3 h3=>?_);obtain⟨x3,rfl,hx3,s3⟩:=h3;refine ab G G (cD G G G (cD G G G (cD G G G (aG G G (aG G G (Rg.aZ G G (T.aP (ab G G (Rg.xY G G G ?_)))))))));refine ab rfl rfl (Rg.xY rfl rfl rfl (ab rfl rfl (dN (places:=[(0,1),(1,1)]) ch iL Ry rfl ⟨_,_,rfl,rfl,_,_,rfl,rfl,rfl⟩ (out:=[_,_]) ⟨0,[_],rfl,rfl,by simp[Value.cells],1,[_],rfl,iR hx3,by simp[Value.cells],rfl⟩ (ab rfl rfl (ab rfl rfl ?_)))));obtain⟨vx,yV⟩:∃vx,vx=x3:=⟨_,rfl⟩;have uQ:=jc hx3 rfl rfl;refine dP (M:=ins M b0) iL G G (by intro u hu;simp at hu;rcases hu with rfl|rfl;rfl;exact uQ) G G (s3.aE hB) (.inl G) (λw4 hB4 s4=>?_);refine aG G G (Rg.aZ G G (aI ?_));have lh:=s1.size;have ass:=s3.size;have S3:=s1.av s3;have S:Step M w0 M w4 aD:=(S3.ck s4 (λk hk=>by subst hk;omega)).back;refine Mg G G ch G iL G hB4 G G ⟨_,by unfold re;rw[if_neg c2]<;>rfl,?_,S⟩;unfold re;rw[if_neg c2];have hx4:=(hx3.le s4.le).le (nY hM (S3.ck s4 (λk hk=>by subst hk;omega)));exact fz (gJ DH) hx4 G G G G
theorem Hb {M:aL} {w0:World} {v:Value} {l:List Po} {k:Int} (hM:Lt M w0) (hv:cM RT.li M w0 v (kM l)) (tU:eD (-1) l=true) (rM:∀p∈l,p.2.length<=1099511627776) (sM:(ep (-1) l).length<=1099511627776):
  Spec Tryz.prog 223 #[v,.int .i64 k] w0 (λv' w'=>Step M w0 M w' aD/\((RT.po).sl).V M w' (if Mi ((l.length+7)/8) k then(l.drop (8*k.toNat)).take 8 else[]) v'):=by
 have Si:(kM l).2.1.length=(l.length+7)/8:=by simp[kM,pg]
 refine a7 (args:=[_,_]) (fn:=Tryz.f223) Tryz.func223 G (n:=51) Tryz.ntmps223 (T.aP (Rg.aZ G G (aK (T.aP (ab G G (ab G G ?_))))));refine aQ G G aaj (I7 hv (k:=k)) (λr w1 h1=>?_);obtain⟨rfl,rfl⟩:=h1;refine ib G G (br (v':= .bool (decide (¬(0<=k/\k<(kM l).2.1.length)))) (by unfold Mi;rw[decide_not]) (ad ?_));refine bF G (λc1=>?_) (λc1=>?_)
 ·refine T.aP (Rg.aZ G G (aI (aF G G ⟨aW,?_⟩)));rw[if_neg (by unfold Mi;rw[Si]at c1;simpa using c1)];exact iQ
 ·refine aR (T.aP (ab G G (a8 G (cM.lV U3) G ?_)));refine ao (M:=M) (A:=RT.li) (B:=(RT.bl).sl) eo G G Gt QZ (li1) G G QZ U3 (by repeat (first|exact bN _ _|refine bg (bO U3) ?_)) (λRS zd=>?_);refine bD (M:=M) fg G G G G G U3 (by repeat (first|exact bN _ _|refine bg (bO U3) ?_)) (λab0 Un=>?_);refine ab G G ?_;obtain⟨j,rfl⟩:∃j:Nat,k=j:=⟨k.toNat,by omega⟩;have hb:(kM l).2.1[j]? =some (tw l j):=by simp only[kM,pg,ei];rw[List.getElem?_range q0];rfl
  refine cB fg AE G G G U3 bU q0 (λXf Xg OG OH=>?_);obtain rfl:Xg=tw l j:=aJ (OG.symm.trans (by simpa using hb));have Ue:(tw l j).2.2.2=(((l.drop (8*j)).take 8).length:Int):=rfl;have an2:((l.drop (8*j)).take 8).length<=8:=by rw[bJ];omega
  refine bR (M:=M) (A:=RT.bl) lG G AE QZ G G G U3 (by repeat (first|exact bN _ _|refine bg (bO U3) ?_)) (λSk wU=>?_);refine rG (A:=RT.bl) (M:=M) AE G G G G G U3 (by repeat (first|exact bN _ _|refine bg (bO U3) ?_)) a65 (λai6 Xh an3 Xi asu=>?_);refine ad (T.aP (Rg.aZ G G (aK (aK ?_))));apply T.draw (M:=M) mixed [cp.ptr (RT.int .i64) (tw l j).1,cp.eq _,cp.ptr (RT.int .i64) (tw l j).2.1,cp.eq _,cp.eq _,cp.eq _]
  ·rfl
  ·refine aH ?_ ?_
   ·intro wD E sD;refine ao (M:=M) (A:=RT.bl) (B:=RT.int .i64) lG G G I3 QZ (bl0) G G QZ U3 (by repeat (first|exact bN _ _|refine bg (bO U3) ?_)) (λXc BE=>?_);exact ad ⟨G,G,_,G,by assumption,aW⟩
   refine aH ?_ ?_
   ·intro wD E sD;intro v0 qY;refine bT (M:=M) ak G G U3 (by repeat (first|exact bN _ _|refine bg (bO U3) ?_)) (λUo=>?_);exact a01
   refine aH ?_ ?_
   ·intro wD E sD;refine ao (M:=M) (A:=RT.bl) (B:=RT.int .i64) lG G G I3 QZ (bl1) G G QZ U3 (by repeat (first|exact bN _ _|refine bg (bO U3) ?_)) (λab2 tV=>?_);exact ad ⟨G,G,_,G,by assumption,aW⟩
   refine aH ?_ ?_
   ·intro wD E sD;intro v2 Bo;refine bT (M:=M) ak G G U3 (by repeat (first|exact bN _ _|refine bg (bO U3) ?_)) (λOI=>?_);exact a01
   refine aH ?_ ?_
   ·intro wD E sD;refine aw ?_;intro v0 qY;refine aw (aG G G ?_);exact a01
   refine aH ?_ ?_
   ·intro wD E sD;refine aw (aw ?_);intro v0 qY;refine aw ?_;intro v2 Bo;refine aw (aw (aG G G ?_));exact a01
   exact uL
  ·intro wD5 Sd;intro asv an4;refine aw ?_;intro ahP T2;refine aw (aw (aw (aX ?_)));have hz5:=Xi.size;refine cY (σ:=Nat×Value) (λs=>[(0,v),(5,ai6),(6,s.2),(7,.int .i64 (ep (-1) (l.take (8*j+s.1))).length),(8,.int .i64 (cO (-1) (l.take (8*j+s.1))))]) (λs w=>s.1<=((l.drop (8*j)).take 8).length/\∃M1,Lt M1 w/\Step M w0 M1 w aD/\Step M Xh M1 w aD/\Own RT.po 188 M1 w Xh.heap.size s.2 (((l.drop (8*j)).take 8).take s.1)) (λs=>((l.drop (8*j)).take 8).length-s.1) (0,_) a05 ?_ ?_
   ·exact⟨bp _,M,Sd.lt (Xi.lt hM),Xi.av Sd,Sd,eJ _ _ _ _ _⟩
   ·rintro⟨i,u0⟩ w1 ⟨hi,M1,oN,S,S5,ho⟩;dsimp only at hi ho ⊢;refine aK (T.aP (ab G G (iV bG G ho G (br (v':= .int .i64 i) (by rw[bJ,xR hi]) ?_))));refine ao (M:=M1) (A:=RT.bl) (B:=RT.int .i64) lG G G I3 QZ (bl3) G G QZ U3 (by repeat (first|exact bN _ _|refine bg (bO U3) ?_)) (λaaJ ab3=>?_);refine bT ak G G ab3 bU (λan6=>?_);refine br (v':= .int .i64 ((l.drop (8*j)).take 8).length) G (cy G G G (ad ?_));refine bF G (λc6=>?_) (λc6=>?_)
    ·refine aR (aX (T.aP (ab G G (a8 G (cM.lV U3) G ?_))));refine ao (M:=M1) (A:=RT.li) (B:=RT.u8.sl) eo G G D3 QZ (li0) G G QZ U3 (by repeat (first|exact bN _ _|refine bg (bO U3) ?_)) (λabv ry=>?_);refine bD (M:=M1) bX G G G G G U3 (by repeat (first|exact bN _ _|refine bg (bO U3) ?_)) (λasw ab4=>?_);refine ab G G (ab G G ?_);obtain⟨⟨d,ps⟩,hx⟩:∃x,l[8*j+i]? =some x:=⟨_,an (by rw[bJ,cP]at c6;omega)⟩;obtain⟨f1,f2,f3,f4,f5,f6⟩:=pT tU hx;have htk:re (kM l).1 _ _=_:=Ml tU hx (rM _ (au hx));have JG:(ep (-1) (l.take (8*j+i))).length<=(ep (-1) l).length:=by rw[pU (l:=l) (i:=8*j+i) (-1)];simp
     refine aQ G G ag3 (Ha (M:=M1) oN ab4 q0 q0 sM) (λr7 w7 h7=>?_);obtain⟨p7,h7e,Ze,s7⟩:=h7;rw[htk]at h7e Ze;subst h7e;change RT.po.V M1 w7 (d,ps) p7 at Ze;replace S:=S.av s7;replace S5:=S5.av s7;replace ho:=ho.bQ s7;replace oN:=s7.lt oN;have hci:((l.drop (8*j)).take 8)[i]? =some (d,ps):=by rw[dG,if_pos q0,gY];exact hx
     refine ab G G (cD G G G (cD G G G (cD G G G ?_)));refine rG (A:=RT.po) (M:=M1) iL G G G G G U3 (by repeat (first|exact bN _ _|refine bg (bO U3) ?_)) a65 (λan8 an9 OJ I8 aoa=>?_);refine aG G G (Rg.aZ G G (T.aP (ab G G ?_)));replace S:=S.av I8;replace S5:=S5.av I8;replace ho:=ho.bQ I8;replace oN:=I8.lt oN;clear Ze;refine bR (A:=RT.po) ch G iL QZ G G G OJ bU (λv8 Dr=>?_);refine fw (A:=RT.po) (hn:=by decide) (M:=M1) bG iL QZ G G oN Dr (.inl G) (λu2 w2 fm s2=>?_);refine dF (M:=M1) (base:=Xh.heap.size) bG iL rfl rfl rfl rfl (ho.bQ s2) fm bU a11 a11 (dm S5.size s2.size) (λv3 M3 w3 QR s3=>?_);replace S:=(S.av s2).dU s3 (ho.bQ s2) hz5;have hu9:=(OJ.le QZ s2.le).le QZ s3.le;have OK:=s3.lt (s2.lt oN);replace S5:=(S5.av s2).dU s3 (ho.bQ s2) (bu _);refine Rg.aZ G G ?_;apply T.draw (M:=M3) mixed [cp.eq _,cp.ptr (RT.int .i64) d,cp.eq _,cp.eq _,cp.eq _]
     ·rfl
     ·refine aH ?_ ?_
      ·intro wD E sD;refine ab G G ?_;exact a01
      refine aH ?_ ?_
      ·intro wD E sD;refine ao (M:=M3) (A:=RT.po) (B:=RT.int .i64) ch G G I3 QZ (QM) G G QZ hu9 sD.le (λaix Oj=>?_);exact ad ⟨G,G,_,G,Oj,aW⟩
      refine aH ?_ ?_
      ·intro wD E sD;intro v1 j9;refine bT (M:=M3) ak G G U3 (by repeat (first|exact bN _ _|refine bg (bO U3) ?_)) (λaob=>?_);exact a01
      refine aH ?_ ?_
      ·intro wD E sD;refine aw (aw (aG G G ?_));exact a01
      refine aH ?_ ?_
      ·intro wD E sD;refine aw (aw (aw ?_));intro v1 j9;refine aw (aw (aG G G ?_));exact a01
      exact uL
     ·intro Up AO;refine aw ?_;intro asy aoc;refine aw (aw (aw ?_));refine⟨rfl,(i+1,v3),(.cons rfl (.cons rfl (.cons rfl (.cons rfl (.cons (by rw[<-f5];rfl) .nil))))),?_,?_⟩
      ·refine ⟨by simp only;omega,M3,AO.lt OK,S.av AO,S5.av AO,?_⟩;simp only;obtain⟨hc1,QP⟩:=al.1 hci;rw[eE hc1,QP];exact QR.bQ AO
      ·simp only;omega
    ·refine cN (T.aP (ab G G (Rg.aZ G G (aI (aF G G ⟨S.back,?_⟩)))));rw[if_pos (by unfold Mi;rw[Si]at c1;simpa using c1),ar];rw[bm q0]at ho;exact Own.close hM S (ho.j2 hz5) q0
theorem E3 {M:aL} {w0:World} {v:Value} {l:List Int} (hv:((RT.int .i64).sl).V M w0 l v):
  Spec Tryz.prog 264 #[v] w0 (λv' w'=>v'= .bool (ov l)/\w0=w'):=by
 have hlen:=cQ hv;refine a7 (args:=[_]) (fn:=Tryz.f264) Tryz.func264 G (n:=32) Tryz.ntmps264 (T.aP (Rg.aZ G G (aK (T.aP (ab G G ?_)))))
 first|refine bz ax rfl U3 rfl ?_|refine iV ax rfl U3 rfl ?_
 refine ab G G (ad (aX ?_));refine cY (σ:=Nat×Int) (λs=>[(0,v),(5,v),(6,.int .i64 l.length),(7,.int .i64 s.1)]) (λs w=>w0=w/\s.1<=l.length/\ov l=(fT s.2 (l.drop s.1)&&(l.drop s.1).all (λn=>decide (n<2147483648)))/\ -1<=s.2/\(s.1=0->s.2= -1)/\(0<s.1->l[s.1-1]? =some s.2)) (λs=>l.length-s.1) (0,-1) a38 ?_ ?_
 ·exact⟨rfl,bp _,rfl,by decide,λ_=>rfl,λh=>absurd h (ji 0)⟩
 ·rintro⟨k,last⟩ w1 ⟨rfl,hk,hr,Sf,h0,h1⟩;dsimp only at hk hr Sf h0 h1 ⊢;refine T.aP (cy G G G (ad (aK ?_)));refine bF G (λc2=>?_) (λc2=>?_)
  ·refine aR (aK (aX (T.aP (ab G G ?_))));obtain⟨x,hx⟩:∃x,l[k]? =some x:=⟨_,an q0⟩;refine cB ax I3 G G G hv bU q0 (λasz ai7 ab5 aod=>?_);obtain rfl:x=ai7:=cz (aJ (ab5.symm.trans ae0));refine bT (M:=M) ak G G U3 (by repeat (first|exact bN _ _|refine bg (bO U3) ?_)) (λaoe=>?_);refine aG G G (Rg.aZ G G (T.aP (ab G G (cy G G G (ab G G ?_)))));refine aO (g:=14) G (λvQ=>?_) (λvQ=>?_)
   ·refine aj G G G G (aj G G G G (aU G G G (ab G G (aj G G G G (aj G G G G (aj G G G G (cf G G G (cf G G G (cf G G G (cf G G G (cf G G G ?_)))))))))));refine cf G G G (cf G G G (aj G G G G (aU G G G (ad (kA G (T.aP (Rg.aZ G G (aI ?_))))))));refine aF G G ⟨congrArg Value.bool (cz ?_),G⟩;rw[hr,gq hx,pV _ hx];by_cases h7:last<x
    ·have h2: ¬x<2147483648:=by omega
     simp[h2]
    ·simp[h7]
   ·refine ae G G (ab G G (ae G G (ek G G G (aA G G G (ab G G ?_)))));refine aO (g:=18) G (λai8=>?_) (λai8=>?_)
    ·refine aj G G G G (aj G G G G (aj G G G G (cf G G G (cf G G G (cf G G G (cf G G G (cf G G G (cf G G G (cf G G G (aj G G G G (aU G G G ?_)))))))))));refine ad (kA G (T.aP (Rg.aZ G G (aI ?_))));refine aF G G ⟨congrArg Value.bool (cz ?_),G⟩;rw[hr,gq hx,pV _ hx];by_cases h7:last<x
     ·have h2: ¬x<2147483648:=by omega
      simp[h2]
     ·simp[h7]
    ·refine ae G G (ab G G (ae G G (eN G G G (ae G G (ab G G ?_)))));refine aO (g:=21) G (λai9=>?_) (λai9=>?_)
     ·refine ae G G (ab G G (ae G G (ab G G (ae G G (ab G G (ae G G (jB G G G q0 (ae G G ?_))))))));refine cB ax I3 G G G hv bU q0 (λaof ab6 Xj aja=>?_);obtain rfl:last=ab6:=cz (aJ (Xj.symm.trans (by rw[show((k:Int)-1).toNat=k-1 from by omega];exact h1 q0)));refine ae G G ?_;refine bT (M:=M) ak G G U3 (by repeat (first|exact bN _ _|refine bg (bO U3) ?_)) (λajb=>?_);refine ae G G (fN G G G (ae G G (aU G G G (aA G G G (ad ?_)))));refine bF G (λc4=>?_) (λc4=>?_)
      ·refine T.aP (Rg.aZ G G (aI ?_));refine aF G G ⟨congrArg Value.bool (cz ?_),G⟩;rw[hr,gq hx,pV _ hx];by_cases h7:last<x
       ·have h2: ¬x<2147483648:=by omega
        simp[h2]
       ·simp[h7]
      ·refine aR (aM (bC G G G q0 (ab G G (ad ?_))));refine⟨G,(k+1,x),a38,?_,?_⟩
       ·refine⟨rfl,by simp only;omega,?_,by simp only;omega,λh=>by simp at h,λ_=>by simpa using hx⟩;rw[hr,gq hx,pV _ hx,decide_eq_true (show last<x by omega),decide_eq_true (show x<2147483648 by omega),dr,dr]
       ·simp only;omega
     ·refine aj G G G G (aj G G G G (aj G G G G (aj G G G G (aj G G G G (aj G G G G (aj G G G G (ae G G (aA G G G (aA G G G (ad (jJ G ?_)))))))))));refine aR (aM (bC G G G q0 (ab G G (ad ?_))));refine⟨G,(k+1,x),a38,?_,?_⟩
      ·refine⟨rfl,by simp only;omega,?_,by simp only;omega,λh=>by simp at h,λ_=>by simpa using hx⟩;rw[hr,gq hx,pV _ hx,decide_eq_true (show last<x by omega),decide_eq_true (show x<2147483648 by omega),dr,dr]
      ·simp only;omega
  ·refine cN (T.aP (Rg.aZ G G (aI ?_)));refine aF G G ⟨congrArg Value.bool (cz ?_),G⟩;rw[hr,fG q0];rfl
theorem Ky {M:aL} {w0:World} {v:Value} {l:List Po} (hM:Lt M w0) (hv:((RT.po).sl).V M w0 l v):
  Spec Tryz.prog 192 #[v] w0 (λv' w'=>v'= .bool (eD (-1) l)/\Step M w0 M w' aD):=by
 have hlen:=cQ hv;refine a7 (args:=[_]) (fn:=Tryz.f192) Tryz.func192 G (n:=36) Tryz.ntmps192 (T.aP (Rg.aZ G G (T.aP (Rg.aZ G G (aK (T.aP ?_))))));refine ab G G ?_
 first|refine bz bG rfl U3 rfl ?_|refine iV bG rfl U3 rfl ?_
 refine ab G G (ad (aX ?_));refine cY (σ:=Nat×Int) (λs=>[(6,v),(7,.int .i64 l.length),(8,.int .i64 s.1),(3,.int .i64 s.2)]) (λs w=>Step M w0 M w aD/\s.1<=l.length/\eD (-1) l=eD s.2 (l.drop s.1)) (λs=>l.length-s.1) (0,-1) a38 ?_ ?_
 ·exact⟨aW,bp _,G⟩
 ·rintro⟨k,last⟩ w1 ⟨S,hk,hr⟩;dsimp only at hk hr ⊢;have hMw:=S.lt hM;refine T.aP (cy G G G (ad (aK ?_)));refine bF G (λc3=>?_) (λc3=>?_)
  ·refine aR (aK (aX (T.aP ?_)));obtain⟨⟨d,ps⟩,hx⟩:∃x,l[k]? =some x:=⟨_,an q0⟩;refine cB bG iL G G G (hv.le S.le) bU q0 (λKb Hc zt rq=>?_);obtain rfl:Hc=(d,ps):=aJ (zt.symm.trans ae0);refine bR (M:=M) (A:=RT.po) ch G iL QZ G G G U3 (by repeat (first|exact bN _ _|refine bg (bO U3) ?_)) (λGH nK=>?_);refine rG (A:=RT.po) (M:=M) iL G G G G G U3 (by repeat (first|exact bN _ _|refine bg (bO U3) ?_)) a65 (λVW VX mM oC abK=>?_);refine ad (aK (T.aP ?_));refine ao (M:=M) (A:=RT.po) (B:=RT.int .i64) ch G G I3 QZ (QM) G G QZ U3 (by repeat (first|exact bN _ _|refine bg (bO U3) ?_)) (λXc BE=>?_);refine bT ak G G BE bU (λUo=>?_);refine br (v':= .int .i64 d) G ?_;simp only at Uo;refine ab G G (fN G G G (ab G G ?_));refine aO (g:=16) G (λajc=>?_) (λajc=>?_)
   ·refine aj G G G G (aj G G G G (aj G G G G (aU G G G (ab G G (aj G G G G (aj G G G G (aj G G G G (aj G G G G (aU G G G (ab G G (aj G G G G ?_)))))))))));refine aj G G G G (aj G G G G (aj G G G G (aU G G G (ad (kA G (T.aP (Rg.aZ G G (aI ?_))))))));refine aF G G ⟨congrArg Value.bool (cz ?_),S.av oC⟩;rw[hr,lX hx]
    first
    |(rw[decide_eq_false (show¬last<d by omega)];simp;done)
    |(rw[decide_eq_false (show¬d<2147483648 by omega)];simp;done)
    |(rw[show ps=[]from cL.1 q0];simp;done)
    |(simp[c5];done)
   ·refine ae G G ?_;refine ao (M:=M) (A:=RT.po) (B:=RT.int .i64) ch G G I3 QZ (QM) G G QZ U3 (by repeat (first|exact bN _ _|refine bg (bO U3) ?_)) (λasA ab7=>?_);refine ae G G ?_;refine bT ak G G ab7 bU (λaog=>?_);refine br (v':= .int .i64 d) G (ae G G (ek G G G (aA G G G (ab G G ?_))));refine aO (g:=21) G (λajd=>?_) (λajd=>?_)
    ·refine aj G G G G (aj G G G G (aj G G G G (aj G G G G (aU G G G (ab G G (aj G G G G (aj G G G G (aj G G G G (aj G G G G (aU G G G (ad ?_)))))))))));refine kA G (T.aP (Rg.aZ G G (aI ?_)));refine aF G G ⟨congrArg Value.bool (cz ?_),S.av oC⟩;rw[hr,lX hx]
     first
     |(rw[decide_eq_false (show¬last<d by omega)];simp;done)
     |(rw[decide_eq_false (show¬d<2147483648 by omega)];simp;done)
     |(rw[show ps=[]from cL.1 q0];simp;done)
     |(simp[c5];done)
    ·refine ae G G ?_;refine ao (M:=M) (A:=RT.po) (B:=(RT.int .i64).sl) ch G G ph QZ (VC) G G QZ U3 (by repeat (first|exact bN _ _|refine bg (bO U3) ?_)) (λaoh aje=>?_);refine ae G G ?_;refine bD (M:=M) ax G G G G G U3 (by repeat (first|exact bN _ _|refine bg (bO U3) ?_)) (λaoi Xk=>?_);refine ae G G (bz ax G Xk G (br (v':= .int .i64 ps.length) G (ae G G (fi G G G (aA G G G (ab G G ?_))))));refine aO (g:=27) G (λUq=>?_) (λUq=>?_)
     ·refine aj G G G G (aj G G G G (aj G G G G (aj G G G G (aU G G G (ad (kA G (T.aP (Rg.aZ G G (aI ?_)))))))));refine aF G G ⟨congrArg Value.bool (cz ?_),S.av oC⟩;rw[hr,lX hx]
      first
      |(rw[decide_eq_false (show¬last<d by omega)];simp;done)
      |(rw[decide_eq_false (show¬d<2147483648 by omega)];simp;done)
      |(rw[show ps=[]from cL.1 q0];simp;done)
      |(simp[c5];done)
     ·refine ae G G ?_;refine ao (M:=M) (A:=RT.po) (B:=(RT.int .i64).sl) ch G G ph QZ (VC) G G QZ U3 (by repeat (first|exact bN _ _|refine bg (bO U3) ?_)) (λaoj ajf=>?_);refine ae G G ?_;refine bD (M:=M) ax G G G G G U3 (by repeat (first|exact bN _ _|refine bg (bO U3) ?_)) (λaok Xl=>?_);refine ae G G ?_;refine aQ G G ag1 (E3 Xl) (λr5 w5 h5=>?_);obtain⟨rfl,rfl⟩:=h5;refine ae G G (ib G G (br (v':= .bool (decide (¬ov ps=true))) (by simp) (aA G G G (ad ?_))));refine bF G (λc5=>?_) (λc5=>?_)
      ·refine T.aP (Rg.aZ G G (aI ?_));refine aF G G ⟨congrArg Value.bool (cz ?_),S.av oC⟩;rw[hr,lX hx]
       first
       |(rw[decide_eq_false (show¬last<d by omega)];simp;done)
       |(rw[decide_eq_false (show¬d<2147483648 by omega)];simp;done)
       |(rw[show ps=[]from cL.1 q0];simp;done)
       |(simp[c5];done)
      ·refine aR (aM ?_);refine ao (M:=M) (A:=RT.po) (B:=RT.int .i64) ch G G I3 QZ (QM) G G QZ U3 (by repeat (first|exact bN _ _|refine bg (bO U3) ?_)) (λaaX IK=>?_);refine bT ak G G IK bU (λaol=>?_);refine br (v':= .int .i64 d) G (Rg.aZ G G (aM (bC G G G q0 (ab G G (ad ?_)))));refine⟨G,(k+1,d),a38,?_,?_⟩
       ·refine ⟨S.av oC,by simp only;omega,?_⟩
        have fh:ps.isEmpty=false:=by cases ps with
         |nil=>simp at Uq
         |cons a t=>rfl
        rw[hr,lX hx,decide_eq_true (show last<d by omega),decide_eq_true (show d<2147483648 by omega),fh,cG.1 c5];rfl
       ·simp only;omega
  ·refine cN (T.aP (Rg.aZ G G (aI ?_)));refine aF G G ⟨congrArg Value.bool (cz ?_),S⟩;rw[hr,fG q0];rfl
theorem He {M:aL} {w0:World} {v:Value} {l:List Po} (hM:Lt M w0) (hv:((RT.po).sl).V M w0 l v):
  Spec Tryz.prog 193 #[v,.int .i64 8] w0 (λv' w'=>∃bs bn,v'= .func (.func 265) [].toArray [.pointer (some ⟨bs,0,none⟩),.pointer (some ⟨bn,0,none⟩)].toArray/\w'.heap[bs]? =some (.cells #[v] 117 (0,0))/\w'.heap[bn]? =some (.cells #[.int .i64 8] 3 (0,0))/\w0.heap.size<=bs/\w0.heap.size<=bn/\Step M w0 M w' aD):=by
 refine a7 (args:=[_,_]) (fn:=Tryz.f193) Tryz.func193 G (n:=9) Tryz.ntmps193 (T.aP ?_);refine np M G G (λbs w1 h1 Rj hS s1=>?_);rw[iR hv]at hS;refine np (ins M bs) G G (λbn w2 h2 F3 hN s2=>?_);have hS2:=s2.aE hS;have hz1:=s1.size;refine Rg.aZ G G (aK (T.aP (aN ak G G G hN G (cy G G G (ad (T.LJ G (QZ) (aR (T.aP ?_))))))));refine jj (xs:=[]) (ys:=[.tmp 2,.tmp 3]) G G G (Rg.aZ G G (aI ?_));exact aF G G ⟨bs,bn,G,hS2,hN,h1,by omega,(s1.av s2).back⟩
theorem E4 {w0:World} {bs bn yl:Nat} {v:Value} {l:List Po} {M:aL} {wv:World} {J:Nat->World->Prop} {Jx:World->Prop} (hv:((RT.po).sl).V M wv l v) (kI:∀i w w',J i w->Step aD w aD w' aD->J i w') (Sm:∀i w,J i w->w.heap[bs]? =some (.cells #[v] 117 (0,0))/\w.heap[bn]? =some (.cells #[.int .i64 8] 3 (0,0))) (hy:∀(i:Nat) (w:World) (u:Value),J i w->i<l.length->((RT.po).sl).V M wv ((l.drop i).take 8) u->yh Tryz.prog yl [u].toArray w (λr w'=>∃b,r= .bool b/\(b=true->J (min (i+8) l.length) w')/\(b=false->Jx w'))) (h0:J 0 w0):
  Spec Tryz.prog 265 #[.func (.yield yl) #[] #[],.pointer (some ⟨bs,0,none⟩),.pointer (some ⟨bn,0,none⟩)] w0 (λ_ w'=>J l.length w'∨Jx w'):=by
 have hlen:=cQ hv;refine a7 (args:=[_,_,_]) (fn:=Tryz.f265) Tryz.func265 G (n:=31) Tryz.ntmps265 (T.aP (Rg.aZ G G (aX ?_)));refine cY (σ:=Nat) (λs=>[(0,.func (.yield yl) #[] #[]),(1,.pointer (some ⟨bs,0,none⟩)),(2,.pointer (some ⟨bn,0,none⟩)),(4,.int .i64 s)]) (λs w=>J (min s l.length) w/\s<=l.length+8) (λs=>l.length+8-s) 0 a38 ?_ ?_
 ·exact⟨by rw[Nat.zero_min];exact h0,bp _⟩
 ·rintro k w1 ⟨hJ,hk⟩;obtain⟨vB,Dt⟩:=Sm _ _ hJ;refine aK (T.aP (ab G G (aN bG G G G vB G ?_)))
  first|refine bz bG rfl U3 rfl ?_|refine iV bG rfl U3 rfl ?_
  refine cy G G G (ad ?_);refine bF G (λc1=>?_) (λc1=>?_)
  ·refine aR (aK (aX (aK ?_)));apply T.draw (M:=aD) mixed [cp.eq _,cp.eq _,cp.eq _,cp.pure (λv=>((RT.po).sl).V M wv (l.drop k) v),cp.eq _,cp.eq _,cp.eq _]
   ·rfl
   ·refine aH ?_ ?_
    ·intro wD E sD;refine aN ak G G G (cg sD Dt) G ?_;exact a01
    refine aH ?_ ?_
    ·intro wD E sD;refine aN bG G G G (cg sD vB) G ?_;exact a01
    refine aH ?_ ?_
    ·intro wD E sD;refine ab G G ?_;exact a01
    refine aH ?_ ?_
    ·intro wD E sD;refine aw (aw ?_);refine Rg.od (A:=RT.po) (hn:=by decide) bG iL G G G hv q0 (λu hu=>?_);rw[ar]at hu;exact ad ⟨G,G,_,G,hu,aW⟩
    refine aH ?_ ?_
    ·intro wD E sD;intro v3 tK;have ajg:((RT.po).sl).V M wv (l.drop k) v3:=tK;refine bz bG G ajg G ?_;exact a01
    refine aH ?_ ?_
    ·intro wD E sD;refine aw (aw (Rg.min2 G G G ?_));exact a01
    refine aH ?_ ?_
    ·intro wD E sD;refine aw (aw (aw (aw ?_)));intro v3 tK;refine aw (aw (aG G G ?_));exact a01
    exact uL
   ·intro wD3 pq;refine aw (aw (aw ?_));intro ab0 Un;refine aw (aw (aw ?_));rw[show min k l.length=k from by omega]at hJ;have hJ3:=kI _ _ _ hJ pq;obtain⟨hb3,Sn⟩:=Sm _ _ hJ3;refine T.aP (ab G G (aN bG G G G hb3 G (ab G G (ab G G (ab G G (bC G G G q0 (ab G G (ab G G (bC G G G q0 ?_)))))))));refine Rg.JN (A:=RT.po) (hn:=by decide) bG iL rfl rfl rfl rfl rfl hv (by rw[cP];omega) (λu hu=>?_)
    have he:(l.take ((k:Int)+min 8 ((l.drop k).length:Int)).toNat).drop (k:Int).toNat=(l.drop k).take 8:=by
     rw[ar,List.drop_take,cP,show((k:Int)+min 8 ((l.length-k:Nat):Int)).toNat-k=min 8 (l.length-k)from by omega,List.take_eq_take_iff,cP];omega
    rw[he]at hu;refine Rg.yield G (vs:=[u]) G G (hy k _ u hJ3 q0 hu) (λr4 w4 h4=>?_);obtain⟨b,rfl,hb5,qP⟩:=h4;refine ib G G (br (v':= .bool (decide (¬b=true))) (by simp) (ad ?_));refine bF G (λc4=>?_) (λc4=>?_)
    ·refine aI ?_;exact Ds G (.inr (qP (by simpa using c4)))
    ·refine aR (aM (ab G G ?_));have hJ5:=hb5 (cG.1 c4);refine aN ak G G G (Sm _ _ hJ5).2 G (bC G G G q0 (Rg.aZ G G ?_));refine⟨G,k+8,a38,?_,?_⟩
     ·exact⟨hJ5,by omega⟩
     ·show l.length+8-(k+8)<l.length+8-k;omega
  ·refine cN ?_;rw[show min k l.length=l.length from by omega]at hJ;change xj Tryz.prog Tryz.f265 (λ_ w'=>J l.length w'∨Jx w') .normal _ [] _;exact j4 G (.inl hJ)
structure mY (M:aL) (w0:World) (v:Value) (bo bx bl D bs bn:Nat) (st:Obj) (vb vk:Value) (vm last:Int) (b:List UInt8) (ks:List Bl) (M1:aL) (w:World):Prop where
 lt:Lt M1 w
 S:Step M w0 M1 w aD
 mo:M1 bo
 mx:M1 bx
 ml:M1 bl
 md:M1 D
 mr:M1 (D+1)
 o:w.heap[bo]? =some (.cells #[.pointer (some ⟨bx,0,none⟩)] 250 (0,0))
 x:w.heap[bx]? =some (.cells #[vb,vk,.int .i64 vm] 296 (0,0))
 l:w.heap[bl]? =some (.cells #[.int .i64 last] 3 (0,0))
 d:w.heap[D]? =some (.deferred (some []))
 r:w.heap[D+1]? =some st
 s:w.heap[bs]? =some (.cells #[v] 117 (0,0))
 n:w.heap[bn]? =some (.cells #[.int .i64 8] 3 (0,0))
 ne:bo≠bx/\bo≠bl/\bx≠bl/\bo<D/\bx<D/\bl<D/\bs<D/\bn<D/\bs≠bo/\bs≠bx/\bs≠bl/\bn≠bo/\bn≠bx/\bn≠bl/\w0.heap.size<=bo/\w0.heap.size<=bx/\w0.heap.size<=bl/\w0.heap.size<=D
 hb:(RT.u8.sl).V M1 w b vb
 hk:Own RT.bl 301 M1 w (D+2) vk ks
section
variable {M M1 M2:aL} {w0 w w':World} {v vb vk:Value} {bo bx bl D bs bn:Nat} {st:Obj} {vm last:Int} {b:List UInt8} {ks:List Bl}
theorem mY.step (h:mY M w0 v bo bx bl D bs bn st vb vk vm last b ks M1 w) (s:Step M1 w M2 w' aD):mY M w0 v bo bx bl D bs bn st vb vk vm last b ks M2 w':=
 ⟨s.lt h.lt,h.S.av s,(s.mem _ (h.lt _ h.mo)).2 h.mo,(s.mem _ (h.lt _ h.mx)).2 h.mx,(s.mem _ (h.lt _ h.ml)).2 h.ml,(s.mem _ (h.lt _ h.md)).2 h.md,(s.mem _ (h.lt _ h.mr)).2 h.mr,
  s.aE h.o,s.aE h.x,s.aE h.l,s.aE h.d,s.aE h.r,s.aE h.s,s.aE h.n,h.ne,h.hb.le s.le,h.hk.bQ s⟩
theorem mY.Sq {n:Int} (h:mY M w0 v bo bx bl D bs bn st vb vk vm last b ks M1 w) (s:Step M1 w M1 w' (λk=>k=bl)) (hl:w'.heap[bl]? =some (.cells #[.int .i64 n] 3 (0,0))):mY M w0 v bo bx bl D bs bn st vb vk vm n b ks M1 w':=by
 obtain⟨e1,e2,e3,e4,e5,e6,e7,e8,e9,Hf,Kz,Ja,OL,e14,e15,Zf,e17,e18⟩:=h.ne
 exact⟨s.lt h.lt,h.S.ck s (λk hk=>by subst hk;exact e17),h.mo,h.mx,h.ml,h.md,h.mr,s.bW h.o e2,s.bW h.x e3,hl,s.bW h.d q0,s.bW h.r q0,s.bW h.s Kz,s.bW h.n e14,h.ne,h.hb.le s.le,
  h.hk.step s (λk hk hh=>by have:=(h.hk.base k hk).1;omega)⟩
theorem mY.Xm {vb' Xn:Value} {aca:Int} {b':List UInt8} {VJ:List Bl} (h:mY M w0 v bo bx bl D bs bn st vb vk vm last b ks M1 w) (s:Step M1 w M1 w' (λk=>k=bx)) (hx:w'.heap[bx]? =some (.cells #[vb',Xn,.int .i64 aca] 296 (0,0)))
  (hb:(RT.u8.sl).V M1 w' b' vb') (hk:Own RT.bl 301 M1 w (D+2) Xn VJ):mY M w0 v bo bx bl D bs bn st vb' Xn aca last b' VJ M1 w':=by
 obtain⟨e1,e2,e3,e4,e5,e6,e7,e8,e9,Hf,Kz,Ja,OL,e14,e15,Zf,e17,e18⟩:=h.ne
 exact⟨s.lt h.lt,h.S.ck s (λk hk=>by subst hk;exact Zf),h.mo,h.mx,h.ml,h.md,h.mr,s.bW h.o e1,hx,s.bW h.l (Ne.symm e3),s.bW h.d q0,s.bW h.r q0,s.bW h.s Hf,s.bW h.n OL,h.ne,hb,
  hk.step s (λk pf hh=>by have:=(hk.base k pf).1;omega)⟩
theorem mY.py {st':Obj} (h:mY M w0 v bo bx bl D bs bn st vb vk vm last b ks M1 w) (kI:w.heap[D+1]? =some st):mY M w0 v bo bx bl D bs bn st' vb vk vm last b ks M1 (w.putObj (D+1) st'):=by
 have s:Step M1 w M1 (w.putObj (D+1) st') (λk=>k=D+1):=ga h.mr;obtain⟨e1,e2,e3,e4,e5,e6,e7,e8,e9,Hf,Kz,Ja,OL,e14,e15,Zf,e17,e18⟩:=h.ne
 exact⟨s.lt h.lt,h.S.ck s (λk hk=>by subst hk;omega),h.mo,h.mx,h.ml,h.md,h.mr,s.bW h.o q0,s.bW h.x q0,s.bW h.l q0,s.bW h.d q0,World.putObj_heap_same (ah kI),s.bW h.s q0,s.bW h.n q0,h.ne,h.hb.le s.le,
  h.hk.step s (λk pf hh=>by have:=(h.hk.base k pf).1;omega)⟩
theorem mY.other {q:Nat} (h:mY M w0 v bo bx bl D bs bn st vb vk vm last b ks M1 w) (s:Step M1 w M1 w' (λk=>k=q)) (hq:D+1<q) (hqv:∀k,vk.ownBlock=some k->k≠q):mY M w0 v bo bx bl D bs bn st vb vk vm last b ks M1 w':=by
 obtain⟨e1,e2,e3,e4,e5,e6,e7,e8,e9,Hf,Kz,Ja,OL,e14,e15,Zf,e17,e18⟩:=h.ne
 exact⟨s.lt h.lt,h.S.ck s (λk hk=>by subst hk;omega),h.mo,h.mx,h.ml,h.md,h.mr,s.bW h.o q0,s.bW h.x q0,s.bW h.l q0,s.bW h.d q0,s.bW h.r q0,s.bW h.s q0,s.bW h.n q0,h.ne,h.hb.le s.le,
  h.hk.step s (λk pf hh=>hqv k pf hh)⟩
theorem mY.grow {Xn:Value} {VJ:List Bl} (h:mY M w0 v bo bx bl D bs bn st vb vk vm last b ks M1 w) (s:Step M1 w M2 w' (λk=>vk.ownBlock=some k)) (hk:Own RT.bl 301 M2 w' (D+2) Xn VJ):
  (w'.heap[bx]? =some (.cells #[vb,vk,.int .i64 vm] 296 (0,0))/\M2 bx/\Lt M2 w')/\∀{w2:World},Step M2 w' M2 w2 (λk=>k=bx)->w2.heap[bx]? =some (.cells #[vb,Xn,.int .i64 vm] 296 (0,0))->mY M w0 v bo bx bl D bs bn st vb Xn vm last b VJ M2 w2:=by
 obtain⟨e1,e2,e3,e4,e5,e6,e7,e8,e9,Hf,Kz,Ja,OL,e14,e15,Zf,e17,e18⟩:=h.ne;have hn:∀k,vk.ownBlock=some k->D+2<=k:=λk hk=>(h.hk.base k hk).1
 have gL:=λ{k:Nat} (hm:M1 k)=>(s.mem k (h.lt k hm)).2 hm
 refine ⟨⟨s.bW h.x (λhh=>by have:=hn _ hh;omega),gL h.mx,s.lt h.lt⟩,λ{w2} s2 hx=> ?_⟩;have S':=h.S.ck s (λk hk=>by have:=hn k hk;omega)
 exact⟨s2.lt (s.lt h.lt),S'.ck s2 (λk hk=>by subst hk;exact Zf),gL h.mo,gL h.mx,gL h.ml,gL h.md,gL h.mr,s2.bW (s.bW h.o (λhh=>by have:=hn _ hh;omega)) e1,hx,s2.bW (s.bW h.l (λhh=>by have:=hn _ hh;omega)) (Ne.symm e3),
  s2.bW (s.bW h.d (λhh=>by have:=hn _ hh;omega)) q0,s2.bW (s.bW h.r (λhh=>by have:=hn _ hh;omega)) q0,s2.bW (s.bW h.s (λhh=>by have:=hn _ hh;omega)) Hf,s2.bW (s.bW h.n (λhh=>by have:=hn _ hh;omega)) OL,h.ne,(h.hb.le s.le).le s2.le,
  hk.step s2 (λk pf hh=>by have:=(hk.base k pf).1;omega)⟩
end
def OM (M:aL) (w0:World) (l:List Po) (v:Value) (bo bx bl D bs bn:Nat) (st:Obj) (i:Nat) (w:World):Prop:=
 ∃(M1:aL) (vb vk:Value),mY M w0 v bo bx bl D bs bn st vb vk (jd (l.take i)) (cO (-1) (l.take i)) (ep (-1) (l.take i)) (pg l ((i+7)/8)) M1 w/\(i%8=0\/i=l.length)/\i<=l.length
theorem Xo {M:aL} {w0 w2 w3 w5 w6 w7:World} {v:Value} {l:List Po} {bo bx bl bs bn:Nat} {st:Obj} (S6:Step M w0 (ins (ins (ins M bx) bo) bl) w6 aD) (s7:Step (ins (ins (ins M bx) bo) bl) w6 (ins (ins (ins M bx) bo) bl) w7 aD) (hM:Lt M w0)
  (e1:bo<w6.heap.size) (e2:bx<w6.heap.size) (e3:bl<w6.heap.size) (n1:bo≠bx) (n2:bo≠bl) (n3:bx≠bl)
  (hO:w6.heap[bo]? =some (.cells #[.pointer (some ⟨bx,0,none⟩)] 250 (0,0))) (hX:w6.heap[bx]? =some (.cells #[.slice none 0 0,.slice none 0 0,.int .i64 0] 296 (0,0))) (hL:w6.heap[bl]? =some (.cells #[.int .i64 (-1)] 3 (0,0)))
  (hS:w7.heap[bs]? =some (.cells #[v] 117 (0,0))) (hN:w7.heap[bn]? =some (.cells #[.int .i64 8] 3 (0,0))) (hbs:w6.heap.size<=bs) (YZ:w6.heap.size<=bn)
  (g1:w0.heap.size<=bo) (g2:w0.heap.size<=bx) (g3:w0.heap.size<=bl):
  OM M w0 l v bo bx bl w7.heap.size bs bn st 0 ((w7.alloc (.deferred (some []))).alloc st):=by
 have sA:Step (ins (ins (ins M bx) bo) bl) w7 (ins (ins (ins (ins M bx) bo) bl) w7.heap.size) (w7.alloc (.deferred (some []))) aD:=(dW _ w7 _).own (bu _) (by simp);have sB:Step (ins (ins (ins (ins M bx) bo) bl) w7.heap.size) (w7.alloc (.deferred (some []))) (ins (ins (ins (ins (ins M bx) bo) bl) w7.heap.size) (w7.heap.size+1)) ((w7.alloc (.deferred (some []))).alloc st) aD:=(dW _ _ _).own (by simp) (by simp);have z7:=s7.size;have hs7:=ah hS;have hn7:=ah hN;have S:=((S6.av s7).av sA).av sB;have hD:(w7.alloc (.deferred (some []))).heap[w7.heap.size]? =some (.deferred (some [])):=dn w7 _;have hR:((w7.alloc (.deferred (some []))).alloc st).heap[w7.heap.size+1]? =some st:=by have:=dn (w7.alloc (.deferred (some []))) st;rwa [World.size_alloc]at this
 have z0:=S6.size;refine⟨_,.slice none 0 0,.slice none 0 0,⟨S.lt hM,S,?_,?_,?_,?_,.inl rfl,sB.aE (sA.aE (s7.aE hO)),sB.aE (sA.aE (s7.aE hX)),sB.aE (sA.aE (s7.aE hL)),sB.aE hD,hR,sB.aE (sA.aE hS),sB.aE (sA.aE hN),by omega,iQ,eJ _ _ _ _ _⟩,.inl rfl,bp _⟩
 ·exact .inr (.inr (.inr (.inl G)))
 ·exact .inr (.inr (.inr (.inr (.inl G))))
 ·exact .inr (.inr (.inl G))
 ·exact .inr (.inl G)
set_option maxHeartbeats 4000000 in
theorem vR {M:aL} {w0:World} {v:Value} {l:List Po} (hM:Lt M w0) (hv:((RT.po).sl).V M w0 l v) (rM:∀p∈l,p.2.length<=1099511627776) (sM:(ep (-1) l).length<=35184372088832) (LW:l.length<=1099511627776) (asC:jd l<=4611686018427387904):
  Spec Tryz.prog 155 #[v] w0 (λv' w'=>Step M w0 M w' aD/\(eD (-1) l=true->∃p,v'= .tuple #[p,.int .i64 0]/\cM RT.li M w' p (kM l))/\(eD (-1) l=false->v'= .tuple #[.pointer none,.int .i64 1])):=by
 have hlen:=cQ hv;refine tp (args:=[_]) (fn:=Tryz.f155) Tryz.func155 G (n:=85) Tryz.ntmps155 (T.aP (aG G G (Rg.aZ G G (aK (T.aP (ab G G ?_))))));refine aQ G G agT (Ky hM hv) (λr w1 h1=>?_);obtain⟨rfl,s1⟩:=h1;refine ib G G (br (v':= .bool (decide (¬eD (-1) l=true))) (by simp) (ad ?_));refine bF G (λc1=>?_) (λc1=>?_)
 ·refine T.aP (aG G G (Rg.aZ G G (aI ?_)));exact Ri G G G ⟨s1,λh=>absurd h c1,λ_=>G⟩
 ·have tU:=cG.1 c1;refine aR (T.aP (dN (places:=[(0,1),(1,1),(2,1)]) eo agy agB G G (out:=[.slice none 0 0,.slice none 0 0,.int .i64 0]) G ?_));refine np M G G (λbx w2 Sm asD hX s2=>?_);change w2.heap[bx]? =some (.cells #[.slice none 0 0,.slice none 0 0,.int .i64 0] 296 (0,0))at hX;refine eB (ins M bx) sa G (λbo w3 Zg asE hO s3=>?_);refine cn (M:=ins (ins M bx) bo) sa G G hO G G (.inl G) (λw4 hO4 s4=>?_);refine ad (T.aP ?_);refine eB (ins (ins M bx) bo) I3 G (λbl w5 asG aoq hL s5=>?_);refine cn (M:=ins (ins (ins M bx) bo) bl) I3 G G hL G G (.inl G) (λw6 hL6 s6=>?_);have z1:=s1.size;have z2:=s2.size;have z3:=s3.size;have z4:=s4.size;have z5:=s5.size;have z6:=s6.size;have S6:Step M w0 (ins (ins (ins M bx) bo) bl) w6 aD:=((((s1.av s2).av s3).ck s4 (λk hk=>by subst hk;omega)).av s5).ck s6 (λk hk=>by subst hk;omega);have hO6:=s6.bW (s5.aE hO4) (show bo≠bl by omega);have Hg:=s6.bW (s5.aE (s4.bW (s3.aE hX) (show bx≠bo by omega))) (show bx≠bl by omega);refine ad (aK (T.aP (ab G G ?_)));refine aQ G G agU (He (M:=ins (ins (ins M bx) bo) bl) (S6.lt hM) (hv.le S6.le)) (λr w7 h7=>?_);obtain⟨bs,bn,rfl,hS7,hN7,hbs,YZ,s7⟩:=h7;have z7:=s7.size;have asJ:=ah hS7;have asK:=ah hN7;refine ad (aX ?_);refine T.range (gf:=265) (lb:=[.pointer (some ⟨bs,0,none⟩),.pointer (some ⟨bn,0,none⟩)].toArray) G ag2 (λrec tj=>?_);obtain⟨D,hD⟩:∃D,D=w7.heap.size:=⟨_,rfl⟩;rw[<-hD]at tj ⊢
  have h0:OM M w0 l v bo bx bl D bs bn (.loop (rec .ready none)) 0 ((w7.alloc (.deferred (some []))).alloc (.loop (rec .ready none))):=by
   rw[hD]at tj ⊢;exact Xo (w2:=w7) (w3:=w7) (w5:=w7) S6 s7 hM q0 q0 q0 q0 q0 q0 hO6 Hg hL6 hS7 hN7 hbs YZ q0 q0 q0
  refine Spec.mono (E4 (M:=M) (wv:=w0) (J:=OM M w0 l v bo bx bl D bs bn (.loop (rec .ready none))) (Jx:=λ_=>False) hv (λi w w' ⟨M1,vb,vk,h,h2⟩ s=>⟨M1,vb,vk,h.step (s.any M1),h2⟩) (λi w ⟨M1,vb,vk,h,h2⟩=>⟨h.s,h.n⟩) (λi wr u hJ hi hu=>?_) h0) (λ_ w3 h3=>?_)
  ·obtain⟨M1,vb,vk,h,hi8,qM⟩:=hJ;refine qv (ps:=[17]) (vs:=[u]) tj h.r G QZ (aM (Rg.aZ G G (⟨G,h.r,?_⟩)));have h1:=h.py (st':= .loop (rec .busy none)) h.r;generalize wr.putObj (D+1) _=wB at h1 ⊢;have hO:=h1.o;have hX:=h1.x;have hL:=h1.l;have hB:=h1.hb;have eQ:=h1.lt;have rO:((l.drop i).take 8).length<=8:=by rw[bJ];omega
   have asL:((l.drop i).take 8).length=min 8 (l.length-i):=by rw[bJ,cP]
   obtain⟨q1,q2,q3,q4,q5,q6,q7,q8,q9,q10,q11,q12,q13,q14,q15,q16,q17,q18⟩:=h1.ne;refine aX (aK ?_);apply T.Iq (M:=M1) (n:=85) _ mixed [] [cp.eq _,cp.eq _,cp.eq _,cp.eq _,cp.eq _,cp.eq _,cp.eq _,cp.eq _,cp.eq _,cp.mk' (λp w'=>∃bq,p= .pointer (some ⟨bq,0,none⟩)/\wB.heap.size<=bq/\w'.heap[bq]? =some (.cells #[.int .i64 0,.int .i64 0,.int .i64 0,.int .i64 0] 301 (0,0))) (fun⟨bq,h1,h2,h3⟩ s=>⟨bq,h1,h2,s.aE h3⟩)]
   ·rfl
   ·rfl
   ·rfl
   ·rfl
   ·exact a89
   ·exact qH
   ·refine ay ?_ ?_
    ·intro wD E sD;refine aN dJ G G G (cg sD U3) G ?_;exact a01
    refine ay ?_ ?_
    ·intro wD E sD;refine aw (a8 G ⟨_,G⟩ G ?_);exact a01
    refine ay ?_ ?_
    ·intro wD E sD;refine aw (aY eo G G D3 QZ G G ?_);exact a01
    refine ay ?_ ?_
    ·intro wD E sD;refine aw (aN bX G G G (cg sD U3) G ?_);exact a01
    refine ay ?_ ?_
    ·intro wD E sD;refine aw ?_
     first|refine bz bX rfl U3 rfl ?_|refine iV bX rfl U3 rfl ?_
     exact a01
    refine ay ?_ ?_
    ·intro wD E sD;refine aN ak G G G (cg sD U3) G ?_;exact a01
    refine ay ?_ ?_
    ·intro wD E sD;refine ab G G ?_;exact a01
    refine ay ?_ ?_
    ·intro wD E sD;refine aw ?_
     first|refine bz bG rfl U3 rfl ?_|refine iV bG rfl U3 rfl ?_
     exact a01
    refine ay ?_ ?_
    ·intro wD E sD;refine aw (aw (aw (dN (places:=[(0,1),(1,1),(2,1),(3,1)]) lG AE agC rfl ⟨_,_,rfl,rfl,_,_,rfl,rfl,_,_,rfl,rfl,rfl⟩ (out:=[.int .i64 (ep (-1) (l.take i)).length,.int .i64 (cO (-1) (l.take i)),.int .i64 0,.int .i64 ((l.drop i).take 8).length]) ⟨0,[_],rfl,rfl,by simp[Value.cells],1,[_],rfl,rfl,by simp[Value.cells],3,[_],rfl,rfl,by simp[Value.cells],rfl⟩ ?_)));exact a01
    refine ay ?_ ?_
    ·intro wD E sD;refine eB M1 AE G (λbq wq e1 e2 e3 s=>?_);exact ad ⟨G,G,_,G,⟨bq,G,dm sD.size e1,e3⟩,s.back⟩
    exact j0
   ·intro wD7 Ur;refine aw (aw (aw (aw (aw (aw (aw (aw (aw ?_))))))));intro asV acb;obtain⟨bq,rfl,Vt,Dn⟩:=acb;have TP:=ah Dn;have sQ:Step M1 wB (ins M1 bq) wD7 aD:=Ur.own Vt TP;refine dP (M:=ins M1 bq) (vs:=[.int .i64 (ep (-1) (l.take i)).length,.int .i64 (cO (-1) (l.take i)),.int .i64 0,.int .i64 ((l.drop i).take 8).length]) AE G G (by intro x hx;simp at hx;rcases hx with rfl|rfl|rfl|rfl<;>rfl) rfl rfl Dn (.inl rfl) (λwQ hQ sQ2=>?_);refine ad ⟨G,?_⟩;have h2:=h1.step (sQ.ck sQ2 (λk hk=>by subst hk;exact Vt));have hqv:∀k,vk.ownBlock=some k->k≠bq:=λk hk=>by have:=(h1.hk.base k hk).2;omega
    have hDq:D+1<bq:=by have:=ah h1.r;omega
    have h3:mY M w0 v bo bx bl D bs bn (.loop (rec .busy none)) vb vk (jd (l.take (i+0))) (cO (-1) (l.take (i+0))) (ep (-1) (l.take (i+0))) (pg l ((i+7)/8)) (ins M1 bq) wQ:=h2;obtain⟨M2,IC⟩:∃M2,M2=ins M1 bq:=⟨_,rfl⟩;rw[<-IC]at h3;refine aK (T.aP (ab G G ?_))
    first|refine bz bG rfl U3 rfl ?_|refine iV bG rfl U3 rfl ?_
    refine ab G G (ad (aX ?_));refine cY (σ:=Nat×Value) (λs=>[(4,.pointer (some ⟨bo,0,none⟩)),(5,.pointer (some ⟨bl,0,none⟩)),(6,u),(7,.pointer (some ⟨bq,0,none⟩)),(27,u),(28,.int .i64 ((l.drop i).take 8).length),(29,.int .i64 s.1)]) (λs w=>s.1<=((l.drop i).take 8).length/\w.heap[bq]? =some (.cells #[.int .i64 (ep (-1) (l.take i)).length,.int .i64 (cO (-1) (l.take i)),.int .i64 0,.int .i64 ((l.drop i).take 8).length] 301 (0,0))/\mY M w0 v bo bx bl D bs bn (.loop (rec .busy none)) s.2 vk (jd (l.take (i+s.1))) (cO (-1) (l.take (i+s.1))) (ep (-1) (l.take (i+s.1))) (pg l ((i+7)/8)) M2 w) (λs=>((l.drop i).take 8).length-s.1) (0,vb) a30 ?_ ?_
    ·exact⟨bp _,hQ,h3⟩
    ·rintro⟨j,vb⟩ wj ⟨hj,hQ,h4⟩;dsimp only at hj hQ h4 ⊢;have eQ:=h4.lt;refine T.aP (cy G G G (ad (aK ?_)));refine bF G (λc9=>?_) (λc9=>?_)
     ·refine aR (aK (aX (T.aP ?_)));obtain⟨⟨d,ps⟩,hx⟩:∃x,l[i+j]? =some x:=⟨_,an q0⟩;obtain⟨f1,f2,f3,f4,f5,f6⟩:=pT tU hx;obtain⟨f7,f8⟩:=ox.1 f4;have fps:=rM _ (au hx);have fb:=mX l (i+j);have ft:=DK l (i+j);have ft2:=DK l (i+j+1);rw[yp hx]at ft2;have ftk:=yo (-1) hx;have ftl:=mX l (i+j+1);simp only at fps;refine cB bG iL G G G (hu.le h4.S.le) bU q0 (λNh E5 zu yY=>?_);obtain rfl:(d,ps)=E5:=cz (aJ (zu.symm.trans (by rw[ar,dG,if_pos q0,gY];exact hx)));refine bR (M:=M2) (A:=RT.po) ch G iL QZ G G G U3 (by repeat (first|exact bN _ _|refine bg (bO U3) ?_)) (λaaU Ni=>?_);refine rG (A:=RT.po) (M:=M2) iL G G G G G U3 (by repeat (first|exact bN _ _|refine bg (bO U3) ?_)) a65 (λaow aox Xp Us aoy=>?_);refine ad (aK ?_);have h5:=h4.step Us;have hO:=h5.o;have hX:=h5.x;have hL:=h5.l;have hB:=h5.hb;have eQ:=h5.lt;have hp0:=Xp;apply T.Iq (M:=M2) (n:=85) _ mixed [] [cp.eq _,cp.eq _,cp.eq _,cp.eq _,cp.eq _,cp.ptr (RT.int .i64) d,cp.eq (.int .i64 d),cp.eq _,cp.eq _,cp.eq (.int .i64 (((d-cO (-1) (l.take (i+j))-1).toNat:Nat):Int)),cp.V (RT.u8.sl) (ep (-1) (l.take (i+j))++put (d-cO (-1) (l.take (i+j))-1).toNat),cp.eq _,cp.eq _]
      ·rfl
      ·rfl
      ·rfl
      ·rfl
      ·exact a89
      ·exact qH
      ·refine ay ?_ ?_
       ·intro wD E sD;refine aN dJ G G G (cg sD U3) G ?_;exact a01
       refine ay ?_ ?_
       ·intro wD E sD;refine aN dJ G G G (cg sD U3) G ?_;exact a01
       refine ay ?_ ?_
       ·intro wD E sD;refine aw (a8 G ⟨_,G⟩ G ?_);exact a01
       refine ay ?_ ?_
       ·intro wD E sD;refine aw (aY eo G G D3 QZ G G ?_);exact a01
       refine ay ?_ ?_
       ·intro wD E sD;refine aw (aN bX G G G (cg sD U3) G ?_);exact a01
       refine ay ?_ ?_
       ·intro wD E sD;refine ao (M:=M2) (A:=RT.po) (B:=RT.int .i64) ch G G I3 QZ (QM) G G QZ U3 (by repeat (first|exact bN _ _|refine bg (bO U3) ?_)) (λacd ON=>?_);exact ad ⟨G,G,_,G,by assumption,aW⟩
       refine ay ?_ ?_
       ·intro wD E sD;intro v5 pL;refine bT (M:=M2) ak G G U3 (by repeat (first|exact bN _ _|refine bg (bO U3) ?_)) (λaji=>?_);exact a01
       refine ay ?_ ?_
       ·intro wD E sD;refine aN ak G G G (cg sD U3) G ?_;exact a01
       refine ay ?_ ?_
       ·intro wD E sD;refine aw (aw (jB G G G q0 ?_));exact a01
       refine ay ?_ ?_
       ·intro wD E sD;refine aw (jB G G G q0 (br (v':= .int .i64 (((d-cO (-1) (l.take (i+j))-1).toNat:Nat):Int)) (by congr 1;omega) ?_));exact a01
       refine ay ?_ ?_
       ·intro wD E sD;refine aw (aw ?_);refine aQ G G VS (Oy (M:=M2) (sD.lt eQ) (hB.le sD.le) q0 q0) (λrP wP hP=>?_);exact ad ⟨G,G,_,G,hP.2,hP.1⟩
       refine ay ?_ ?_
       ·intro wD E sD;refine aw (aw (aw (aw (aw (aw ?_)))));intro v5 pL;refine aw (aw (aw (aw ?_)));intro v10 oO;refine a8 G ⟨_,G⟩ G ?_;exact a01
       refine ay ?_ ?_
       ·intro wD E sD;refine aw (aw (aw (aw (aw (aw ?_)))));intro v5 pL;refine aw (aw (aw (aw ?_)));intro v10 oO;refine aY eo G G D3 QZ G G ?_;exact a01
       exact j0
      ·intro EU dY;refine aw (aw (aw (aw (aw ?_))));intro aoz ajj;refine aw (aw (aw (aw ?_)));intro Hh oP;refine aw (aw ?_);have h6:=h5.step dY;have hp6:=hp0.le QZ dY.le;refine cn (M:=M2) D3 G G h6.x G (jc oP G G) h6.mx (λw11 CU zw=>?_);refine ad ⟨G,?_⟩;have h7:=h6.Xm zw CU (RT.V.le zw.le oP) h6.hk;have Ze:=hp6.le QZ zw.le;refine aK ?_;have hO:=h7.o;have hX:=h7.x;have hB:=h7.hb;have eQ:=h7.lt;have fbl:(ep (-1) (l.take (i+j))++put (d-cO (-1) (l.take (i+j))-1).toNat).length<=35184372088832:=by rw[ftk]at ftl;simp only[bM]at ftl ⊢;omega
       apply T.TM (M:=M2) mixed [(13,λk=>k=bx)] [cp.eq _,cp.eq _,cp.eq _,cp.eq _,cp.eq _,cp.ptr ((RT.int .i64).sl) ps,cp.V ((RT.int .i64).sl) ps,⟨λt w=>∃x,t= .tuple #[x,.int .i64 0]/\(RT.u8.sl).V M2 w (ep (-1) (l.take (i+j))++put (d-cO (-1) (l.take (i+j))-1).toNat++eR ps) x,JD,fun⟨x,h1,h2⟩ s _=>⟨x,h1,h2.le s.le⟩⟩,⟨λt w=>∃x,t= .tuple #[x,.int .i64 0]/\(RT.u8.sl).V M2 w (ep (-1) (l.take (i+j))++put (d-cO (-1) (l.take (i+j))-1).toNat++eR ps) x,JD,fun⟨x,h1,h2⟩ s _=>⟨x,h1,h2.le s.le⟩⟩,cp.V (RT.u8.sl) (ep (-1) (l.take (i+j))++put (d-cO (-1) (l.take (i+j))-1).toNat++eR ps),cp.eq (.int .i64 0),cp.eq _,cp.eq _,⟨λ_ w=>∃x,w.heap[bx]? =some (.cells #[x,vk,.int .i64 (jd (l.take (i+j)))] 296 (0,0))/\(RT.u8.sl).V M2 w (ep (-1) (l.take (i+j))++put (d-cO (-1) (l.take (i+j))-1).toNat++eR ps) x,λk=>k≠bx,fun⟨x,h1,h2⟩ s hN=>⟨x,s.bW h1 (λhb=>hN _ hb rfl),h2.le s.le⟩⟩]
       ·rfl
       ·intro p hp b hb;simp only[cW]at hp;subst hp
        cases hb;exact h7.mx
       ·exact⟨λ_ _ _ _=>trivial,⟨λ_ _ _ _=>trivial,⟨λ_ _ _ _=>trivial,⟨λ_ _ _ _=>trivial,⟨λ_ _ _ _=>trivial,⟨λ_ _ _ _=>trivial,⟨λ_ _ _ _=>trivial,⟨λ_ _ _ _=>trivial,⟨λ_ _ _ _=>trivial,⟨λ_ _ _ _=>trivial,⟨λ_ _ _ _=>trivial,⟨λ_ _ _ _=>trivial,⟨λ_ _ _ _=>trivial,⟨λp hp=>by simp at hp,trivial⟩⟩⟩⟩⟩⟩⟩⟩⟩⟩⟩⟩⟩⟩
       ·refine aH ?_ ?_
        ·intro wD E sD;replace sD:Step M2 _ M2 wD aD:=sD;refine aN dJ G G G (cg sD U3) G ?_;exact a01
        refine aH ?_ ?_
        ·intro wD E sD;replace sD:Step M2 _ M2 wD aD:=sD;refine aN dJ G G G (cg sD U3) G ?_;exact a01
        refine aH ?_ ?_
        ·intro wD E sD;replace sD:Step M2 _ M2 wD aD:=sD;refine aw (a8 G ⟨_,G⟩ G ?_);exact a01
        refine aH ?_ ?_
        ·intro wD E sD;replace sD:Step M2 _ M2 wD aD:=sD;refine aw (aY eo G G D3 QZ G G ?_);exact a01
        refine aH ?_ ?_
        ·intro wD E sD;replace sD:Step M2 _ M2 wD aD:=sD;refine aw (aN bX G G G (cg sD U3) G ?_);exact a01
        refine aH ?_ ?_
        ·intro wD E sD;replace sD:Step M2 _ M2 wD aD:=sD;refine ao (M:=M2) (A:=RT.po) (B:=(RT.int .i64).sl) ch G G ph QZ VC G G QZ Ze sD.le (λuf tW=>?_);exact a73
        refine aH ?_ ?_
        ·intro wD E sD;replace sD:Step M2 _ M2 wD aD:=sD;intro v5 pL;refine bD ax G G G G G (show cM ((RT.int .i64).sl) M2 wD v5 ps from pL) bU (λuf tW=>?_);exact a73
        refine aH ?_ ?_
        ·intro wD E sD;replace sD:Step M2 _ M2 wD aD:=sD;refine aw ?_;intro v6 pw;refine aQ G G agV (zp (M:=M2) (sD.lt eQ) (hB.le sD.le) (show((RT.int .i64).sl).V M2 wD ps v6 from pw) q0) (λrP wP hP=>?_);obtain⟨xP,sP,hP1,hP2⟩:=hP;rw[if_pos f7]at hP1 hP2;exact ad ⟨G,G,_,G,⟨xP,hP1,hP2⟩,sP⟩
        refine aH ?_ ?_
        ·intro wD E sD;replace sD:Step M2 _ M2 wD aD:=sD;intro v7 Ew;refine ab G G ?_;exact ad ⟨G,G,_,G,Ew,aW⟩
        refine aH ?_ ?_
        ·intro wD E sD;replace sD:Step M2 _ M2 wD aD:=sD;intro v8 Dr;obtain⟨xP,rfl,hP2⟩:=Dr;refine cD G G G ?_;exact ad ⟨G,G,_,G,hP2,aW⟩
        refine aH ?_ ?_
        ·intro wD E sD;replace sD:Step M2 _ M2 wD (λk=>k=bx):=sD;intro v8 Dr;obtain⟨xP,rfl,hP2⟩:=Dr;refine cD G G G ?_;exact a01
        refine aH ?_ ?_
        ·intro wD E sD;replace sD:Step M2 _ M2 wD (λk=>k=bx):=sD;refine aw (aw (aw (aw (aw (aw ?_)))));intro v5 pL;intro v6 pw;intro v7 Ew;intro v8 Dr;intro v9 Kf;refine a8 G ⟨_,G⟩ G ?_;exact a01
        refine aH ?_ ?_
        ·intro wD E sD;replace sD:Step M2 _ M2 wD aD:=sD;refine aw (aw (aw (aw (aw (aw ?_)))));intro v5 pL;intro v6 pw;intro v7 Ew;intro v8 Dr;intro v9 Kf;refine aY eo G G D3 QZ G G ?_;exact a01
        refine aH ?_ ?_
        ·intro wD E sD;replace sD:Step M2 _ M2 wD aD:=sD;refine aw ?_;intro v9 Kf;intro v7 Ew;refine aw (aw (aw (aw (aw ?_))));intro v5 pL;intro v6 pw;intro v7 Ew;intro v8 Dr;intro v9 Kf;refine cn (M:=M2) D3 G G (cg sD hX) G (jc (A:=RT.u8.sl) Kf G G) h7.mx (λwS hXS sS=>?_);exact ad ⟨G,G,undef,G,⟨_,hXS,RT.V.le (A:=RT.u8.sl) sS.le Kf⟩,sS⟩
        exact uL
       ·intro CV kq;replace kq:Step M2 _ M2 CV (λk=>k=bx):=kq;refine aw (aw (aw (aw (aw ?_))));intro aoB ajk;intro aoC ajl;intro aoD ajm;intro aoE ajn;intro aoF ajo;refine aw (aw (aw ?_));intro ajp Sr;obtain⟨v12,Hi,ajq⟩:=Sr;have h8:=h7.Xm kq Hi ajq h7.hk;have hp8:=Ze.le QZ kq.le;refine aK ?_;have hO:=h8.o;have hX:=h8.x;apply T.Iq (M:=M2) (n:=85) _ mixed [] [cp.eq _,cp.eq _,cp.eq _,cp.eq _,cp.ptr ((RT.int .i64).sl) ps,cp.V ((RT.int .i64).sl) ps,cp.eq (.int .i64 ps.length),cp.eq _,cp.eq _,cp.eq _]
        ·rfl
        ·rfl
        ·rfl
        ·rfl
        ·exact a89
        ·exact qH
        ·refine ay ?_ ?_
         ·intro wD E sD;refine aN dJ G G G (cg sD U3) G ?_;exact a01
         refine ay ?_ ?_
         ·intro wD E sD;refine aw (a8 G ⟨_,G⟩ G ?_);exact a01
         refine ay ?_ ?_
         ·intro wD E sD;refine aw (aY eo G G I3 QZ G G ?_);exact a01
         refine ay ?_ ?_
         ·intro wD E sD;refine aw (aN ak G G G (cg sD U3) G ?_);exact a01
         refine ay ?_ ?_
         ·intro wD E sD;refine ao (M:=M2) (A:=RT.po) (B:=(RT.int .i64).sl) ch G G ph QZ VC G G QZ hp8 sD.le (λuf tW=>?_);exact a73
         refine ay ?_ ?_
         ·intro wD E sD;intro v4 pK;refine bD ax G G G G G (show cM ((RT.int .i64).sl) M2 wD v4 ps from pK) bU (λuf tW=>?_);exact a73
         refine ay ?_ ?_
         ·intro wD E sD;intro v5 pL;refine bz ax G (show((RT.int .i64).sl).V M2 wD ps v5 from pL) G ?_;exact a01
         refine ay ?_ ?_
         ·intro wD E sD;refine aw (aw (bC G G G q0 ?_));exact a01
         refine ay ?_ ?_
         ·intro wD E sD;refine aw (aw (aw (aw (aw ?_))));intro v4 pK;intro v5 pL;refine aw (aw (a8 G ⟨_,G⟩ G ?_));exact a01
         refine ay ?_ ?_
         ·intro wD E sD;refine aw (aw (aw (aw (aw ?_))));intro v4 pK;intro v5 pL;refine aw (aw (aY eo G G I3 QZ G G ?_));exact a01
         exact j0
        ·intro Nk iM;refine aw (aw (aw (aw ?_)));intro aoH ajr;intro IL vG;refine aw (aw (aw (aw ?_)));have h9:=h8.step iM;refine cn (M:=M2) I3 G G h9.x G G h9.mx (λW0 OO tS=>?_);refine ad ⟨G,?_⟩;have Ku:=h9.Xm tS OO (h9.hb.le tS.le) h9.hk;have ajs:=(hp8.le QZ iM.le).le QZ tS.le;refine aM ?_;refine ao (A:=RT.po) (B:=RT.int .i64) ch G G I3 QZ QM G G QZ ajs bU (λaoI Xq=>?_);refine bT ak G G Xq bU (λ_=>?_);refine br (v':= .int .i64 d) G ?_;refine cn (M:=M2) I3 G G Ku.l G G Ku.ml (λNB ajt jv=>?_);have h11:=Ku.Sq jv ajt;refine ad (aM (bC G G G q0 (ab G G (ad ?_))));refine⟨G,(j+1,v12),a30,?_,?_⟩
         ·refine⟨by simp only;omega,?_,?_⟩
          ·exact jv.bW (tS.bW (iM.aE (kq.bW (zw.bW (dY.aE (Us.aE hQ)) q0) q0)) q0) q0
          ·simp only;rw[show i+(j+1)=i+j+1 from by omega,yp hx,f5,ftk];exact h11
         ·simp only;omega
     ·refine cN (T.aP ?_);obtain rfl:j=((l.drop i).take 8).length:=by omega
      have Zz:M2 bq:=by rw[IC];exact .inl G
      refine aN ak G G G h4.l G (aY (o':=2) lG G G I3 QZ G G ?_);refine cn (M:=M2) I3 G G hQ G G Zz (λUt acf Hj=>?_);have Zh:=h4.other Hj hDq hqv;change Ut.heap[bq]? =some (.cells [.int .i64 (ep (-1) (l.take i)).length,.int .i64 (cO (-1) (l.take i)),.int .i64 (cO (-1) (l.take (i+((l.drop i).take 8).length))),.int .i64 ((l.drop i).take 8).length].toArray 301 (0,0))at acf;refine ad ?_;have hO:=Zh.o;have hX:=Zh.x;have Ss:=Zh.hk;have ix:∀k,vk.ownBlock=some k->k≠bo:=λk hk=>by have:=(Ss.base k hk).1;omega
      have as3:=ah Zh.r;have g1:=kf l (-1) tU q0 i;have g2:=kf l (-1) tU q0 (i+((l.drop i).take 8).length);have g3:=mX l i;apply T.Iq (M:=M2) (n:=85) _ mixed [(7,λk=>vk.ownBlock=some k)] [cp.eq _,cp.eq _,cp.eq _,cp.eq _,cp.eq _,cp.eq (.agg [.int .i64 (ep (-1) (l.take i)).length,.int .i64 (cO (-1) (l.take i)),.int .i64 (cO (-1) (l.take (i+((l.drop i).take 8).length))),.int .i64 ((l.drop i).take 8).length].toArray),cp.V ((RT.bl).sl) [(((ep (-1) (l.take i)).length:Int),cO (-1) (l.take i),cO (-1) (l.take (i+((l.drop i).take 8).length)),(((l.drop i).take 8).length:Int))],⟨λt w=>∃M3,Own RT.bl 301 M3 w (D+2) t (pg l ((i+7)/8)++[(((ep (-1) (l.take i)).length:Int),cO (-1) (l.take i),cO (-1) (l.take (i+((l.drop i).take 8).length)),(((l.drop i).take 8).length:Int))])/\Step M2 Ut M3 w (λk=>vk.ownBlock=some k),aD,fun⟨M3,h1,h2⟩ s hN=>⟨M3,h1.bQ ((s.ew hN a18).any M3),h2.av ((s.ew hN a18).any M3)⟩⟩,cp.eq _,cp.eq _]
      ·rfl
      ·rfl
      ·rfl
      ·rfl
      ·intro p hp b hb;simp only[cW]at hp;subst hp;exact Ss.mut_ b hb
      ·exact⟨λ_ _ _ _=>trivial,⟨λ_ _ _ _=>trivial,⟨λ_ _ _ _=>trivial,⟨λ_ _ _ _=>trivial,⟨λ_ _ _ _=>trivial,⟨λ_ _ _ _=>trivial,⟨λ_ _ _ _=>trivial,⟨λp hp=>by simp at hp,⟨λ_ _ _ _=>trivial,⟨λ_ _ _ _=>trivial,trivial⟩⟩⟩⟩⟩⟩⟩⟩⟩⟩
      ·refine ay ?_ ?_
       ·intro wD E sD;replace sD:Step M2 _ M2 wD (λk=>vk.ownBlock=some k):=sD;refine aN dJ G G G (sD.bW hO (λhb=>ix _ hb rfl)) G ?_;exact a01
       refine ay ?_ ?_
       ·intro wD E sD;replace sD:Step M2 _ M2 wD (λk=>vk.ownBlock=some k):=sD;refine aN dJ G G G (sD.bW hO (λhb=>ix _ hb rfl)) G ?_;exact a01
       refine ay ?_ ?_
       ·intro wD E sD;replace sD:Step M2 _ M2 wD (λk=>vk.ownBlock=some k):=sD;refine aw (a8 G ⟨_,G⟩ G ?_);exact a01
       refine ay ?_ ?_
       ·intro wD E sD;replace sD:Step M2 _ M2 wD (λk=>vk.ownBlock=some k):=sD;refine aw (aY eo G G Gt QZ G G ?_);exact a01
       refine ay ?_ ?_
       ·intro wD E sD;replace sD:Step M2 _ M2 wD aD:=sD;refine aw (aN fg G G G (cg sD U3) G ?_);exact a01
       refine ay ?_ ?_
       ·intro wD E sD;replace sD:Step M2 _ M2 wD (λk=>vk.ownBlock=some k):=sD;refine eX (vs:=[.int .i64 (ep (-1) (l.take i)).length,.int .i64 (cO (-1) (l.take i)),.int .i64 (cO (-1) (l.take (i+((l.drop i).take 8).length))),.int .i64 ((l.drop i).take 8).length]) lG G AE G G G (sD.bW acf (λhb=>hqv _ hb rfl)) ?_;exact a01
       refine ay ?_ ?_
       ·intro wD E sD;replace sD:Step M2 _ M2 wD aD:=sD;refine aw ?_;refine fw (A:=RT.bl) (hn:=by decide) (M:=M2) fg AE QZ G G (sD.lt Zh.lt) (agi q0 q0 q0 q0) (.inl G) (λuS wS hS sS=>?_);exact ad ⟨G,G,_,G,hS,sS⟩
       refine ay ?_ ?_
       ·intro wD E sD;replace sD:Step M2 _ M2 wD aD:=sD;refine aw ?_;intro v6 pw;refine dF (M:=M2) (base:=D+2) fg AE rfl rfl rfl rfl (Ss.bQ sD) (show((RT.bl).sl).V M2 wD [(((ep (-1) (l.take i)).length:Int),cO (-1) (l.take i),cO (-1) (l.take (i+((l.drop i).take 8).length)),(((l.drop i).take 8).length:Int))] v6 from pw) bU (by simp[pg];omega) (by simp[pg];omega) (by have:=sD.size;omega) (λv3 M3 w3 QR s3=>?_);exact ad ⟨G,G,_,G,⟨M3,QR,(sD.ew a18 Ss.mut_).trans s3 (λb _ hb=>hb)⟩,s3.back⟩
       refine ay ?_ ?_
       ·intro wD E sD;replace sD:Step M2 _ M2 wD (λk=>vk.ownBlock=some k):=sD;refine aw (aw (aw (aw (aw (aw (aw ?_))))));intro v6 pw;intro v7 Ew;refine a8 G ⟨_,G⟩ G ?_;exact a01
       refine ay ?_ ?_
       ·intro wD E sD;replace sD:Step M2 _ M2 wD (λk=>vk.ownBlock=some k):=sD;refine aw (aw (aw (aw (aw (aw (aw ?_))))));intro v6 pw;intro v7 Ew;refine aY eo G G Gt QZ G G ?_;exact a01
       exact j0
      ·intro aju acg;replace acg:Step M2 _ M2 aju (λk=>vk.ownBlock=some k):=acg;refine aw (aw (aw (aw (aw (aw ?_)))));intro aoJ ajv;intro aoK Xr;refine aw (aw ?_);obtain⟨M3,QR,sR⟩:=Xr;obtain⟨⟨hx3,hm3,as5⟩,Vm⟩:=Zh.grow sR QR;refine cn (M:=M3) Gt rfl rfl hx3 rfl (by obtain⟨_,_,he,_⟩:=QR.isSlice;rw[he];rfl) hm3 (λw17 ajw s17=>?_);refine ad ⟨G,?_⟩;have Xb:=Vm s17 ajw;have h18:=Xb.py (st':= .loop (rec .ready none)) Xb.r;have hE:i+((l.drop i).take 8).length=min (i+8) l.length:=by omega
       rw[hE,Mm q0 hi]at h18;exact⟨Xb.r,true,rfl,λ_=>⟨M3,_,_,h18,by omega,by omega⟩,λh=>by cases h⟩
  ·obtain⟨Mz,vb,vk,h,_,_⟩:=h3.resolve_right (λh=>h);left;rw[List.take_length]at h;have h5:=h.py (st':= .loop (rec .exhausted none)) h.r;refine ⟨h.r,?_⟩;generalize w3.putObj (D+1) _=wE at h5 ⊢;refine T.aP (aN dJ G G G h5.o G (aG G G (Rg.aZ G G (aI ?_))));obtain⟨q1,q2,q3,q4,q5,q6,q7,q8,q9,q10,q11,q12,q13,q14,q15,q16,q17,q18⟩:=h5.ne;have sZ:Step Mz wE Mz (wE.putObj D (.deferred none)) (λk=>k=D):=ga h5.md;have SZ:=h5.S.ck sZ (λk hk=>by subst hk;omega);have ht:=oy l;refine Vy rfl rfl rfl h5.d ⟨SZ.back,λ_=>⟨_,rfl,?_⟩,λhf=>by rw[tU]at hf;cases hf⟩;exact ZZ (sZ.bW h5.x q0) (λhh=>by have:=hM _ hh;omega) ((h5.hb.le sZ.le).le (nY hM SZ)) (Own.close hM SZ ((h5.hk.step sZ (λk hk hh=>by have:=(h5.hk.base k hk).1;omega)).j2 q0) (by simp[pg];omega)) q0
namespace TKBldG
theorem ko:TI Tryz.prog 117 (.slice none 0 0) 1 24:=by unfold TI;kernel_rfl
theorem KA:TI Tryz.prog 249 (.slice none 0 0) 1 24:=by unfold TI;kernel_rfl
theorem St:Enters Tryz.prog 155:=enters Tryz.func155 rfl QZ
theorem ajy:Enters Tryz.prog 196:=enters Tryz.func196 rfl QZ
end TKBldG
open TKBldG
set_option maxRecDepth 10000
theorem index_spec {M:aL} {l:List (List Po)} {v0:Value} {g:FuncId} {cap:List Value} {B:Nat} {J:Nat->aL->World->Prop} {bad:List Po->Bool} (w0:World) (hM:Lt M w0) (hv:(((RT.po).sl).sl).V M w0 l v0) (hg:Enters Tryz.prog g) (hJ:J 0 M w0) (kI:∀i M w M' w',J i M w->Step M w M' w' aD->J i M' w') (ht:∀i M w x vx,J i M w->Lt M w->l[i]? =some x->((RT.po).sl).V M w x vx->Spec Tryz.prog g ([vx]++cap).toArray w (λv w'=>∃M',Lt M' w'∧v= .bool (bad x)/\(bad x=false->J (i+1) M' w')/\Step M w M' w' (lg M B))):
  Spec Tryz.prog 196 #[v0,.func (.func g) #[] cap.toArray] w0 (λv w=>∃M' k,v= .int .i64 k/\ -1<=k/\Lt M' w/\Step M w0 M' w (lg M B)/\(k= -1->(∀x∈l,bad x=false)/\J l.length M' w)/\(0<=k->∃x∈l,bad x=true)):=by
 have hlen:=cQ hv;refine a7 (args:=[_,_]) (fn:=Tryz.f196) Tryz.func196 G (n:=19) Tryz.ntmps196 ?_;have S:Step M w0 M w0 (lg M B):=(aW).ew a18 (λ_ h=>h.2);refine T.aP (Rg.aZ G G (aK (T.aP (ab G G (bz Tryz.underlying112 G hv G (ab G G (ad (aX ?_))))))));refine cY (σ:=Nat) (λq=>[(0,v0),(1,.func (.func g) #[] cap.toArray),(6,v0),(7,.int .i64 (l.length:Int)),(8,.int .i64 (q:Int))]) (λq w=>∃M',Lt M' w/\Step M w0 M' w (lg M B)/\(((RT.po).sl).sl).V M' w l v0/\J q M' w/\q<=l.length/\∀x∈l.take q,bad x=false) (λq=>l.length-q) 0 a05 ?_ ?_
 ·exact⟨M,hM,S,hv,hJ,bp _,λx h=>by simp at h⟩
 ·clear hM S hv hJ;rintro i w ⟨M1,hM,S,hv,hJ,hi,jz⟩;refine T.aP (cy G G G (ad (aK ?_)));refine bF G (λc2=>?_) (λc2=>?_)
  ·refine aR (aK (aX (T.aP (ab G G (Rg.aZ G G (T.aP (ab G G (ab G G ?_))))))));refine ab G G ?_;refine cB Tryz.underlying112 ko G G G hv bU q0 (λu x Gw hu=>?_);rw[ar]at Gw;refine bD bG G G G G G hu bU (λvx yV=>?_);refine uI (first:=[]) (captured:=cap) (xs:=[.tmp 15]) G G G hg (ht i _ _ x vx hJ hM Gw yV) (λr4 w4 hc=>?_);obtain⟨M4,Uu,rfl,hJ4,s4⟩:=hc;refine br (v':= .bool (decide (bad x=true))) (by simp) ?_;have S4:=S.trans s4 (λk hk h=>⟨h.1,(S.mem k hk).1 h.2⟩);refine ad ?_;refine bF G (λc4=>?_) (λc4=>?_)
   ·refine T.aP (ab G G (Rg.aZ G G (aI ?_)));exact aF G G ⟨M4,_,G,by omega,Uu,S4,λh=>absurd h q0,λ_=>⟨x,au Gw,c4⟩⟩
   ·refine aR (aM (bC G G G q0 (ab G G (ad ?_))));refine⟨G,i+1,a05,?_,?_⟩
    ·have hb:bad x=false:=by simpa using c4
     exact⟨M4,Uu,S4,hv.le s4.le,hJ4 hb,by omega,λy hy=>by
      rw[b7,Gw,dH,dw,cW]at hy;rcases hy with hy|rfl
      ·exact jz y hy
      ·exact hb⟩
    ·omega
  ·refine cN (T.aP (Rg.aZ G G (aI ?_)));rw[bm q0]at jz;have e:i=l.length:=by omega
   subst e;exact aF G G ⟨_,_,G,by omega,hM,S,λ_=>⟨jz,hJ⟩,λh=>absurd h q0⟩
theorem AP {M:aL} {l:List (List Po)} {v0:Value} {g:FuncId} {cap:List Value} {B:Nat} {J:Nat->aL->World->Prop} {bad:List Po->Bool} (w0:World) (hM:Lt M w0) (hv:(((RT.po).sl).sl).V M w0 l v0) (hg:Enters Tryz.prog g) (hJ:J 0 M w0) (kI:∀i M w M' w',J i M w->Step M w M' w' aD->J i M' w') (ht:∀i M w x vx,J i M w->Lt M w->l[i]? =some x->((RT.po).sl).V M w x vx->Spec Tryz.prog g ([vx]++cap).toArray w (λv w'=>∃M',Lt M' w'∧v= .bool (bad x)/\(bad x=false->J (i+1) M' w')/\Step M w M' w' (lg M B))):
  Spec Tryz.prog 156 #[v0,.func (.func g) #[] cap.toArray] w0 (λv w=>∃M' k,v= .bool (decide (0<=k))/\ -1<=k/\Lt M' w/\Step M w0 M' w (lg M B)/\(k= -1->(∀x∈l,bad x=false)/\J l.length M' w)/\(0<=k->∃x∈l,bad x=true)):=by
 refine a7 (args:=[_,_]) (fn:=Tryz.f156) Tryz.func156 G (n:=9) Tryz.ntmps156 (T.aP (Rg.aZ G G (T.aP (ab G G (ab G G ?_)))));refine aQ G G ajy (index_spec w0 hM hv hg hJ kI ht) (λr w1 hc=>?_);obtain⟨M1,k,rfl,hk,h2⟩:=hc;refine ek G G G (Rg.aZ G G (aI ?_));exact aF G G ⟨M1,k,G,hk,h2⟩
def E6 (x:List Po):Int:=match x.getLast? with|some p=>p.1|none=> -1
def mZ (n:Int) (x:List Po):Bool:= !eD (-1) x||x.isEmpty||decide (n<=E6 x)
theorem E7 {x:List Po} {p:Po} (h:x[x.length-1]? =some p):E6 x=p.1:=by
 unfold E6;rw[List.getLast?_eq_getElem?,h]
structure Room (x:List Po):Prop where
 ps:∀p∈x,p.2.length<=1099511627776
 by_:(ep (-1) x).length<=35184372088832
 ln:x.length<=1099511627776
 vm:jd x<=4611686018427387904
def RT.cell:RT Value where
 n:=1
 agg:=false
 R:=λ_ _ x vs=>vs=[x]/\x.oneCell'=true
 len:=by rintro _ _ x vs ⟨rfl,_⟩;rfl
 one:=by rintro _ _ x vs ⟨rfl,h⟩ v hv;simp at hv;subst hv;exact h
 le:=λ_ h=>h
theorem Su {M:aL} {w:World} {v:Value} (h:v.oneCell'=true):RT.cell.V M w v v:=⟨[v],⟨rfl,h⟩,rfl⟩
theorem fI.cells {α:Type} {A:RT α} (hA:A.n=1) {M:aL} {w:World}:∀{xs:List α} {C:List Value},fI A M w xs C->∃ys:List Value,fI RT.cell M w ys C/\ys.length=xs.length
 |[],C,h=>⟨[],h,rfl⟩
 |x::xs,C,h=>by
  obtain⟨vs,r,h1,h2,h3⟩:=h;obtain⟨ys,h4,h5⟩:=fI.cells hA h3;have hl:=A.len h2
  match vs,hl,h1,h2 with
  |[v],_,h1,h2=>exact⟨v::ys,⟨[v],r,h1,⟨rfl,A.one h2 v (by simp)⟩,h4⟩,by simp[h5]⟩
  |[],hl,_,_=>simp at hl;omega
  |_::_::_,hl,_,_=>simp at hl;omega
theorem Own.cells {α:Type} {A:RT α} (hA:A.n=1) {e:TypeId} {M:aL} {w:World} {base:Nat} {v:Value} {xs:List α} (h:Own A e M w base v xs):∃ys:List Value,Own RT.cell e M w base v ys/\ys.length=xs.length:=by
 obtain⟨⟨C,hr,ha⟩,hm⟩:=h;obtain⟨ys,h1,h2⟩:=ha.cells hA;exact⟨ys,⟨⟨C,by rw[h2,show RT.cell.n=A.n from hA.symm];exact hr,h1⟩,hm⟩,h2⟩
def AQ (bl bn:Nat) (n:Int) (ls:List (List Po)) (B:Nat) (i:Nat) (M:aL) (w:World):Prop:=∃vl,w.heap[bl]? =some (.cells #[vl] 249 (0,0))/\M bl/\B<=bl/\w.heap[bn]? =some (.cells #[.int .i64 n] 3 (0,0))/\M bn/\Own ((RT.li).ptr) 250 M w B vl ((ls.take i).map kM)
theorem AQ.bQ {bl bn:Nat} {n:Int} {ls:List (List Po)} {B i:Nat} {M M':aL} {w w':World} (h:AQ bl bn n ls B i M w) (s:Step M w M' w' aD):AQ bl bn n ls B i M' w':=by
 obtain⟨vl,h1,h2,h3,h4,h5,h6⟩:=h;exact⟨vl,s.aE h1,(s.mem _ (ah h1)).2 h2,h3,s.aE h4,(s.mem _ (ah h4)).2 h5,h6.bQ s⟩
theorem Xs {M:aL} {bl bn B i:Nat} {n:Int} {ls:List (List Po)} {x:List Po} {v0:Value} (w0:World) (hM:Lt M w0) (hB:B<=w0.heap.size) (hJ:AQ bl bn n ls B i M w0) (hx:ls[i]? =some x) (hv:((RT.po).sl).V M w0 x v0) (hr:Room x) (qM:i<=1000000000) (hm:eD (-1) x=true):
  Spec Tryz.prog 154 #[v0,.pointer (some ⟨bl,0,none⟩),.pointer (some ⟨bn,0,none⟩)] w0 (λv w=>∃M',Lt M' w/\v= .bool (mZ n x)/\(mZ n x=false->AQ bl bn n ls B (i+1) M' w)/\Step M w0 M' w (lg M B)):=by
 have hlen:=cQ hv;obtain⟨vl,gl,kr,hBl,gn,mg,ho⟩:=hJ;have nln:bl≠bn:=λh=>by rw[h,gn]at gl;simp at gl
 refine a7 (args:=[_,_,_]) (fn:=Tryz.f154) Tryz.func154 G (n:=34) Tryz.ntmps154 ?_;have S:Step M w0 M w0 (lg M B):=(aW).ew a18 (λ_ h=>h.2);refine T.aP (Rg.aZ G G (T.aP (ab G G ?_)));refine aQ G G St (vR hM hv hr.ps hr.by_ hr.ln hr.vm) (λr1 w1 hc=>?_);obtain⟨s1,fY,jz⟩:=hc;obtain⟨p,rfl,hp⟩:=fY hm;have:=ah gl;replace kr:=(s1.mem _ this).2 kr;replace gl:=s1.aE gl;have:=ah gn;replace mg:=(s1.mem _ this).2 mg;replace gn:=s1.aE gn;replace hv:=hv.le s1.le;replace ho:=ho.bQ s1;replace hM:=s1.lt hM;have:=S.size;replace S:=S.av s1;refine ab G G (cD G G G (cD G G G (aG G G (Rg.aZ G G (T.aP (aN ff G G G gl G (br (v':=vl) G (ab G G ?_))))))));refine fw (A:=((RT.li).ptr)) (hn:=by decide) (M:=M) ff sa QZ G G hM (IZ.2 hp) (.inr ⟨G,G⟩) (λajA ajB mh pB=>?_);have:=ah gl;replace kr:=(pB.mem _ this).2 kr;replace gl:=pB.aE gl;have:=ah gn;replace mg:=(pB.mem _ this).2 mg;replace gn:=pB.aE gn;replace hv:=hv.le pB.le;replace hp:=hp.le QZ pB.le;replace ho:=ho.bQ pB;replace hM:=pB.lt hM;have:=S.size;replace S:=S.av pB;refine dF (M:=M) (base:=B) ff sa rfl rfl rfl rfl ho mh bU a11 a11 ae9 (λXt Hk ajC OP pC=>?_);have:=ah gl;replace kr:=(pC.mem _ this).2 kr;replace gl:=pC.bW gl (λh=>by first|exact ho.eF gl h|exact ho.fA gl QZ h|(have:=(ho.base _ h).1;omega));have:=ah gn;replace mg:=(pC.mem _ this).2 mg;replace gn:=pC.bW gn (λh=>by first|exact ho.eF gn h|exact ho.fA gn QZ h|(have:=(ho.base _ h).1;omega));replace hv:=hv.le pC.le;replace hp:=hp.le QZ pC.le;replace mh:=mh.le pC.le;replace hM:=pC.lt hM;have:=S.size
 replace S:=S.trans pC (λk hk h=>⟨(ho.base k h).1,(S.mem k hk).1 (ho.mut_ k h)⟩);replace ho:=OP;refine cn (M:=Hk) KA rfl rfl gl rfl a96 kr (λXu OQ nT=>?_);change Xu.heap[_]? =some (Obj.cells #[Xt] _ _)at OQ;have:=ah gl;replace kr:=(nT.mem _ this).2 kr;have:=ah gn;replace mg:=(nT.mem _ this).2 mg;replace gn:=nT.bW gn a07;replace hv:=hv.le nT.le;replace hp:=hp.le QZ nT.le;replace mh:=mh.le nT.le;replace ho:=ho.step nT (λc hc (h:c=bl)=>ho.fA gl QZ (h▸hc));replace hM:=nT.lt hM;have:=S.size;replace S:=S.trans nT (λk hk h=>by have h:_=_:=h;subst h;first|(exfalso;omega)|(show _<=_;omega)|exact⟨by first|omega|assumption,(S.mem _ hk).1 ((nT.mem _ (ah gl)).1 kr)⟩|exact .inl rfl|exact .inr rfl|exact .inr (.inl rfl)|exact .inr (.inr rfl)|exact .inr (.inr (.inl rfl))|exact rfl);have gl_:=OQ;clear gl;have gl:=gl_;clear gl_;refine ad (aK ?_);apply uJ mixed rfl rfl;intro wD3 sA3;have pq:=sA3 Hk;have:=ah gl;replace kr:=(pq.mem _ this).2 kr;replace gl:=pq.aE gl;have:=ah gn;replace mg:=(pq.mem _ this).2 mg;replace gn:=pq.aE gn;replace hv:=hv.le pq.le;replace hp:=hp.le QZ pq.le;replace mh:=mh.le pq.le;replace ho:=ho.bQ pq;replace hM:=pq.lt hM;have:=S.size;replace S:=S.av pq;refine ab G G (Rg.de (eV G G G (Rg.de (ab G G (Rg.de (Rg.Ga (g:=18) G (QZ) (ae G G (ab G G (Rg.de (ae G G (bz bG G hv G ?_)))))))))));refine Rg.de (ae G G (fi G G G (Rg.de (aA G G G (Rg.de (ab G G (Rg.de ?_)))))));refine aO (g:=23) G (λXv=>?_) (λXv=>?_)
 ·refine aj G G G G (Rg.de (aj G G G G (Rg.de (aj G G G G (Rg.de (aj G G G G (Rg.de (aj G G G G (Rg.de (aj G G G G (Rg.de ?_)))))))))));refine aj G G G G (Rg.de (aj G G G G (Rg.de (aj G G G G (Rg.de (aU G G G (Rg.de (aG G G (Rg.de (fF (aI ?_)))))))))))
  first
  |(have OR:mZ n x=true:=by
     have:x=[]:=cL.1 q0;simp[mZ,this]
    rw[OR];exact aF G G ⟨_,hM,G,(λh=>by cases h),S⟩)
  |(have fh:x.isEmpty=false:=by cases x with
     |nil=>simp at Xv
     |cons a t=>rfl
    have hbv:mZ n x=decide (n<=q.1):=by unfold mZ;rw[hm,fh,E7 hq];rfl
    rw[hbv];exact aF rfl rfl ⟨_,hM,rfl,λ_=>⟨_,gl,kr,hBl,gn,mg,by rw[b7,hx,dH,dM];exact ho⟩,S⟩)
 ·refine ae G G (ab G G (Rg.de (ae G G (ab G G (Rg.de (ae G G (bz bG G hv G (Rg.de (ae G G (jB G G G q0 (Rg.de ?_)))))))))));refine ae G G ?_;obtain⟨q,hq⟩:∃q,x[x.length-1]? =some q:=⟨_,an q0⟩;refine cB bG iL G G G hv bU q0 (λu3 a Ww gI=>?_);obtain rfl:q=a:=aJ (hq.symm.trans (by rw[show((x.length:Int)-1).toNat=x.length-1 from by omega]at Ww;exact Ww));refine Rg.de (ae G G ?_);refine ao (M:=Hk) (A:=RT.po) (B:=RT.int .i64) ch G G I3 QZ (QM) G G QZ U3 (by repeat (first|exact bN _ _|refine bg (bO U3) ?_)) (λaoM ajE=>?_);refine Rg.de (ae G G ?_);refine bT (M:=Hk) ak G G U3 (by repeat (first|exact bN _ _|refine bg (bO U3) ?_)) (λOS=>?_);refine br (v':= .int .i64 (q.1)) G ?_;replace OS: -9223372036854775808<=(q.1:Int)/\q.1<=9223372036854775807:=OS;refine Rg.de (ae G G (aN ak G G G gn G (br (v':= .int .i64 n) G (Rg.de (ae G G (ek G G G (Rg.de (aA G G G (Rg.de (aG G G (Rg.de ?_)))))))))));refine fF (aI ?_)
  first
  |(have OR:mZ n x=true:=by
     have:x=[]:=cL.1 q0;simp[mZ,this]
    rw[OR];exact aF G G ⟨_,hM,G,(λh=>by cases h),S⟩)
  |(have fh:x.isEmpty=false:=by cases x with
     |nil=>simp at Xv
     |cons a t=>rfl
    have hbv:mZ n x=decide (n<=q.1):=by unfold mZ;rw[hm,fh,E7 hq];rfl
    rw[hbv];exact aF rfl rfl ⟨_,hM,rfl,λ_=>⟨_,gl,kr,hBl,gn,mg,by rw[b7,hx,dH,dM];exact ho⟩,S⟩)
theorem Sv {M:aL} {bl bn B i:Nat} {n:Int} {ls:List (List Po)} {x:List Po} {v0:Value} (w0:World) (hM:Lt M w0) (hB:B<=w0.heap.size) (hJ:AQ bl bn n ls B i M w0) (hx:ls[i]? =some x) (hv:((RT.po).sl).V M w0 x v0) (hr:Room x) (qM:i<=1000000000) (hm:eD (-1) x=false):
  Spec Tryz.prog 154 #[v0,.pointer (some ⟨bl,0,none⟩),.pointer (some ⟨bn,0,none⟩)] w0 (λv w=>∃M',Lt M' w/\v= .bool (mZ n x)/\(mZ n x=false->AQ bl bn n ls B (i+1) M' w)/\Step M w0 M' w (lg M B)):=by
 have hlen:=cQ hv;obtain⟨vl,gl,kr,hBl,gn,mg,ho0⟩:=hJ;have nln:bl≠bn:=λh=>by rw[h,gn]at gl;simp at gl
 obtain⟨ys,ho,Y5⟩:=ho0.cells rfl;rw[b9,bJ]at Y5;clear ho0;refine a7 (args:=[_,_,_]) (fn:=Tryz.f154) Tryz.func154 G (n:=34) Tryz.ntmps154 ?_;have S:Step M w0 M w0 (lg M B):=(aW).ew a18 (λ_ h=>h.2);refine T.aP (Rg.aZ G G (T.aP (ab G G ?_)));refine aQ G G St (vR hM hv hr.ps hr.by_ hr.ln hr.vm) (λr1 w1 hc=>?_);obtain⟨s1,fY,jz⟩:=hc;obtain rfl:=jz hm;have:=ah gl;replace kr:=(s1.mem _ this).2 kr;replace gl:=s1.aE gl;have:=ah gn;replace mg:=(s1.mem _ this).2 mg;replace gn:=s1.aE gn;replace hv:=hv.le s1.le;replace ho:=ho.bQ s1;replace hM:=s1.lt hM;have:=S.size;replace S:=S.av s1;refine ab G G (cD G G G (cD G G G (aG G G (Rg.aZ G G (T.aP (aN ff G G G gl G (br (v':=vl) G (ab G G ?_))))))));refine fw (A:=RT.cell) (hn:=by decide) (M:=M) ff sa QZ G G hM (Su (v:= .pointer none) G) (.inr ⟨G,G⟩) (λajA ajB mh pB=>?_);have:=ah gl;replace kr:=(pB.mem _ this).2 kr;replace gl:=pB.aE gl;have:=ah gn;replace mg:=(pB.mem _ this).2 mg;replace gn:=pB.aE gn;replace hv:=hv.le pB.le;replace ho:=ho.bQ pB;replace hM:=pB.lt hM;have:=S.size;replace S:=S.av pB;refine dF (M:=M) (base:=B) ff sa rfl rfl rfl rfl ho mh bU a11 a11 ae9 (λXt Hk ajC OP pC=>?_);have:=ah gl;replace kr:=(pC.mem _ this).2 kr;replace gl:=pC.bW gl (λh=>by first|exact ho.eF gl h|exact ho.fA gl QZ h|(have:=(ho.base _ h).1;omega));have:=ah gn;replace mg:=(pC.mem _ this).2 mg;replace gn:=pC.bW gn (λh=>by first|exact ho.eF gn h|exact ho.fA gn QZ h|(have:=(ho.base _ h).1;omega));replace hv:=hv.le pC.le;replace mh:=mh.le pC.le;replace hM:=pC.lt hM
 have:=S.size;replace S:=S.trans pC (λk hk h=>⟨(ho.base k h).1,(S.mem k hk).1 (ho.mut_ k h)⟩);replace ho:=OP;refine cn (M:=Hk) KA rfl rfl gl rfl a96 kr (λXu OQ nT=>?_);change Xu.heap[_]? =some (Obj.cells #[Xt] _ _)at OQ;have:=ah gl;replace kr:=(nT.mem _ this).2 kr;have:=ah gn;replace mg:=(nT.mem _ this).2 mg;replace gn:=nT.bW gn a07;replace hv:=hv.le nT.le;replace mh:=mh.le nT.le;replace ho:=ho.step nT (λc hc (h:c=bl)=>ho.fA gl QZ (h▸hc));replace hM:=nT.lt hM;have:=S.size;replace S:=S.trans nT (λk hk h=>by have h:_=_:=h;subst h;first|(exfalso;omega)|(show _<=_;omega)|exact⟨by first|omega|assumption,(S.mem _ hk).1 ((nT.mem _ (ah gl)).1 kr)⟩|exact .inl rfl|exact .inr rfl|exact .inr (.inl rfl)|exact .inr (.inr rfl)|exact .inr (.inr (.inl rfl))|exact rfl);have gl_:=OQ;clear gl;have gl:=gl_;clear gl_;refine ad (aK ?_);apply uJ mixed rfl rfl;intro wD3 sA3;have pq:=sA3 Hk;have:=ah gl;replace kr:=(pq.mem _ this).2 kr;replace gl:=pq.aE gl;have:=ah gn;replace mg:=(pq.mem _ this).2 mg;replace gn:=pq.aE gn;replace hv:=hv.le pq.le;replace mh:=mh.le pq.le;replace ho:=ho.bQ pq;replace hM:=pq.lt hM;have:=S.size;replace S:=S.av pq;refine ab G G (Rg.de (eV G G G (Rg.de (ab G G (Rg.de (Rg.LI (g:=18) G (QZ) (aj G G G G (Rg.de (aj G G G G (Rg.de (aj G G G G ?_)))))))))));refine Rg.de (aU G G G (Rg.de (ab G G (Rg.de (aj G G G G (Rg.de (aj G G G G (Rg.de (aj G G G G (Rg.de (aj G G G G ?_)))))))))));refine Rg.de (aj G G G G (Rg.de (aj G G G G (Rg.de (aj G G G G (Rg.de (aj G G G G (Rg.de (aj G G G G (Rg.de (aU G G G ?_)))))))))))
 refine Rg.de (aG G G (Rg.de (fF (aI ?_))));have OR:mZ n x=true:=by simp[mZ,hm]
 rw[OR];exact aF G G ⟨_,hM,G,(λh=>by cases h),S⟩
theorem OT {M:aL} {bl bn B i:Nat} {n:Int} {ls:List (List Po)} {x:List Po} {v0:Value} (w0:World) (hM:Lt M w0) (hB:B<=w0.heap.size) (hJ:AQ bl bn n ls B i M w0) (hx:ls[i]? =some x) (hv:((RT.po).sl).V M w0 x v0) (hr:Room x) (qM:i<=1000000000):
  Spec Tryz.prog 154 #[v0,.pointer (some ⟨bl,0,none⟩),.pointer (some ⟨bn,0,none⟩)] w0 (λv w=>∃M',Lt M' w/\v= .bool (mZ n x)/\(mZ n x=false->AQ bl bn n ls B (i+1) M' w)/\Step M w0 M' w (lg M B)):=by
 cases hm:eD (-1) x with
 |true=>exact Xs w0 hM hB hJ hx hv hr qM hm
 |false=>exact Sv w0 hM hB hJ hx hv hr qM hm
end Go.K
namespace Go.K
open Go.Proofs
namespace TKBldH
theorem KB:TI Tryz.prog 112 (.slice none 0 0) 1 24:=by unfold TI;kernel_rfl
theorem Sw:TI Tryz.prog 114 (.agg #[(.slice none 0 0),(.slice none 0 0),(.slice none 0 0),(.slice none 0 0)]) 4 96:=by unfold TI;kernel_rfl
theorem ajF:TI Tryz.prog 215 (.agg #[(.slice none 0 0),(.slice none 0 0),(.pointer none)]) 3 56:=by unfold TI;kernel_rfl
theorem KA:TI Tryz.prog 249 (.slice none 0 0) 1 24:=by unfold TI;kernel_rfl
theorem ajG:placesOf Tryz.prog 215=[(0,1),(1,1),(2,1)].map some:=by kernel_rfl
theorem Kv:Enters Tryz.prog 100:=enters Tryz.func100 rfl QZ
theorem ajH:Enters Tryz.prog 101:=enters Tryz.func101 rfl QZ
theorem ajI:Enters Tryz.prog 153:=enters Tryz.func153 rfl QZ
theorem ajJ:Enters Tryz.prog 154:=enters Tryz.func154 rfl QZ
theorem ajK:Enters Tryz.prog 156:=enters Tryz.func156 rfl QZ
theorem ajL:Enters Tryz.prog 157:=enters Tryz.func157 rfl QZ
end TKBldH
open TKBldH
set_option maxRecDepth 10000
def Ar (p:Pa):Bool:=decide (p.1.length=p.2.1.length)&&fT (-1) p.2.1&&p.2.2.2.all (λx=> !mZ (p.1.length:Int) x)&&decide (p.2.2.1.length=p.2.2.2.length)&&EX none p.2.2.1
def F9 (p:Pa):Se:=(p.1,p.2.1,p.2.2.1,p.2.2.2.map kM)
structure OU (p:Pa):Prop where
 a:p.1.length<=1000000000
 b:p.2.1.length<=1000000000
 c:p.2.2.1.length<=1000000000
 d:p.2.2.2.length<=1000000000
 e:∀x∈p.2.2.2,Room x
theorem Hl {M:aL} {p:Pa} {v0:Value} (w0:World) (hM:Lt M w0) (hv:RT.pa.V M w0 p v0) (hR:OU p):
  Spec Tryz.prog 101 #[v0] w0 (λv w=>Step M w0 M w aD/\(Ar p=true->cM RT.se M w v (F9 p))/\(Ar p=false->v= .pointer none)):=by
 have gX:=hM;obtain⟨hRa,hRb,hRc,hRd,hRe⟩:=hR;refine a7 (args:=[_]) (fn:=Tryz.f101) Tryz.func101 G (n:=45) Tryz.ntmps101 ?_;have S:Step M w0 M w0 aD:=aW;refine T.aP ?_;refine ej (A:=RT.pa) G G hM hv G (λu0 w1 du s0 _=>?_);replace hM:=s0.lt hM;have:=S.size;replace S:=S.av s0;refine Rg.aZ G G (T.aP ?_);refine ao (M:=M) (A:=RT.pa) (B:=(RT.int .i64).sl) dp G G ph QZ (pa0) G G QZ U3 (by repeat (first|exact bN _ _|refine bg (bO U3) ?_)) (λyX kb=>?_);refine bD (M:=M) ax G G G G G U3 (by repeat (first|exact bN _ _|refine bg (bO U3) ?_)) (λxx kO=>?_);replace kO:((RT.int .i64).sl).V M _ p.1 xx:=kO;refine bz ax G kO G ?_;refine eB M I3 G (λxy J5 ahX ahY iY s1_3=>?_);obtain⟨mN,y4⟩:∃M',M'=ins M xy:=⟨_,rfl⟩;rw[<-y4]at s1_3;have jO:mN xy:=by rw[y4];exact .inl G
 change J5.heap[xy]? =some (.cells #[.int .i64 0] _ _)at iY;replace du:=du.le QZ s1_3.le;replace hM:=s1_3.lt hM;have:=S.size;replace S:=S.av s1_3;refine cn (M:=mN) I3 G G iY G (G) jO (λV7 Sx l5=>?_);change V7.heap[_]? =some (Obj.cells #[.int .i64 (p.1.length:Int)] _ _)at Sx;have:=ah iY;replace jO:=(l5.mem _ this).2 jO;replace du:=du.le QZ l5.le;replace hM:=l5.lt hM;have:=S.size;replace S:=S.trans l5 (λk hk h=>by have h:_=_:=h;subst h;first|(exfalso;omega)|(show _<=_;omega)|exact⟨by first|omega|assumption,(S.mem _ hk).1 ((l5.mem _ (ah iY)).1 jO)⟩|exact .inl rfl|exact .inr rfl|exact .inr (.inl rfl)|exact .inr (.inr rfl)|exact .inr (.inr (.inl rfl))|exact rfl);have El:=Sx;clear iY;have iY:=El;clear El;refine ad (aK (T.aP ?_));refine ao (M:=mN) (A:=RT.pa) (B:=(RT.int .i64).sl) dp G G ph QZ (pa1) G G QZ U3 (by repeat (first|exact bN _ _|refine bg (bO U3) ?_)) (λata aoO=>?_);refine bD (M:=mN) ax G G G G G U3 (by repeat (first|exact bN _ _|refine bg (bO U3) ?_)) (λajM OV=>?_);replace OV:((RT.int .i64).sl).V mN _ p.2.1 ajM:=OV;refine bz ax G OV G (aN ak G G G iY G (br (v':= .int .i64 (p.1.length:Int)) G (eV G G G (ab G G ?_))));refine aO (g:=16) G (λajN=>?_) (λajN=>?_)
 ·refine aj G G G G (aj G G G G (aj G G G G (aj G G G G (aU G G G (ad (kA G (T.aP (Rg.aZ G G (aI ?_)))))))))
  have eb:Ar p=false:=by
   unfold Ar
   first
   |(rw[decide_eq_false (show¬p.1.length=p.2.1.length by omega)];simp;done)
   |(simp[c2];done)
  exact aF rfl rfl ⟨S.back,λh=>by(rw[eb]at h;cases h),λ_=>rfl⟩
 ·have Ja:p.1.length=p.2.1.length:=by omega
  refine ae G G ?_;refine ao (M:=mN) (A:=RT.pa) (B:=(RT.int .i64).sl) dp G G ph QZ (pa1) G G QZ U3 (by repeat (first|exact bN _ _|refine bg (bO U3) ?_)) (λatb aoP=>?_);refine ae G G ?_;refine bD (M:=mN) ax G G G G G U3 (by repeat (first|exact bN _ _|refine bg (bO U3) ?_)) (λajO OW=>?_);replace OW:((RT.int .i64).sl).V mN _ p.2.1 ajO:=OW;refine ae G G ?_;refine aQ G G ajI (Kw _ OW) (λr wc hc=>?_);obtain⟨rfl,rfl⟩:=hc;refine ae G G (ib G G (br (v':= .bool (decide (¬fT (-1) p.2.1=true))) (by simp) (aA G G G (ad ?_))));refine bF G (λc2=>?_) (λc2=>?_)
  ·refine T.aP (Rg.aZ G G (aI ?_))
   have eb:Ar p=false:=by
    unfold Ar
    first
    |(rw[decide_eq_false (show¬p.1.length=p.2.1.length by omega)];simp;done)
    |(simp[c2];done)
   exact aF rfl rfl ⟨S.back,λh=>by(rw[eb]at h;cases h),λ_=>rfl⟩
  ·have er:fT (-1) p.2.1=true:=cG.1 c2;refine aR (T.aP ?_);refine eB mN KA G (λOX MW atc atd Ea k4=>?_);obtain⟨Jb,OY⟩:∃M',M'=ins mN OX:=⟨_,rfl⟩;rw[<-OY]at k4;have Xw:Jb OX:=by rw[OY];exact .inl G
   change MW.heap[OX]? =some (.cells #[.slice none 0 0] _ _)at Ea;have:=ah iY;replace jO:=(k4.mem _ this).2 jO;replace iY:=k4.aE iY;replace du:=du.le QZ k4.le;replace hM:=k4.lt hM;have:=S.size;replace S:=S.av k4;refine ad (T.aP (jj (xs:=[]) (ys:=[.tmp 4,.tmp 3]) G G G (Rg.aZ G G (aK (T.aP ?_)))));refine ao (M:=Jb) (A:=RT.pa) (B:=((RT.po).sl).sl) dp G G KB QZ (pa3) G G QZ U3 (by repeat (first|exact bN _ _|refine bg (bO U3) ?_)) (λWq Em=>?_);refine bD (M:=Jb) Tryz.underlying112 G G G G G U3 (by repeat (first|exact bN _ _|refine bg (bO U3) ?_)) (λWr y5=>?_);replace y5:(((RT.po).sl).sl).V Jb _ p.2.2.2 Wr:=y5;refine ab G G ?_;refine aQ G G ajK (AP (cap:=[.pointer (some ⟨OX,0,none⟩),.pointer (some ⟨xy,0,none⟩)]) (B:=w0.heap.size) (J:=AQ OX xy (p.1.length:Int) p.2.2.2 w0.heap.size) (bad:=mZ (p.1.length:Int)) _ hM y5 ajJ ⟨_,Ea,Xw,by omega,iY,jO,eJ _ _ _ _ _⟩ (λi M w M' w' h s=>h.bQ s) (λi M w x vx hJ hM hx yV=>OT w hM (by obtain⟨_,h1,_,h2,_⟩:=hJ;have:=ah h1;omega) hJ hx yV (hRe x (au hx)) (by have:=(al.1 hx).1;omega))) (λr6 w6 hc=>?_);obtain⟨M6,k6,rfl,hk6,OA,s6,hk7,Uv⟩:=hc;replace du:=du.le QZ s6.le;replace S:=S.lM s6 (bu _);refine ad ?_;refine bF G (λc6=>?_) (λc6=>?_)
   ·obtain⟨x6,hx6,qP⟩:=Uv c6
    have eb:Ar p=false:=by
     unfold Ar;have:p.2.2.2.all (λx=> !mZ (p.1.length:Int) x)=false:=List.all_eq_false.2 ⟨x6,hx6,by simp[qP]⟩;simp[this]
    refine T.aP (Rg.aZ G G (aI ?_));exact aF rfl rfl ⟨S.back,λh=>by(rw[eb]at h;cases h),λ_=>rfl⟩
   ·refine aR (T.aP ?_);obtain⟨qP,⟨vl,gl,_,_,_,_,rr⟩⟩:=hk7 q0;rw[bm (bu _)]at rr;have k7:(((RT.li).ptr).sl).V M w6 (p.2.2.2.map kM) vl:=rr.close gX S a11;replace du:cM RT.pa M w6 u0 p:=du.le QZ (nY gX S);replace S:=S.back;replace hM:=S.lt gX;refine ao (A:=RT.pa) (B:=RT.str.sl) dp G G xp QZ pa2 G G QZ du bU (λajP Uw=>?_);refine bD (M:=M) aB G G G G G U3 (by repeat (first|exact bN _ _|refine bg (bO U3) ?_)) (λaci BG=>?_);replace BG:(RT.str.sl).V M _ p.2.2.1 aci:=BG;refine aN ff G G G gl G (br (v':=vl) G ?_);refine aQ G G ajL (G7 _ hM BG k7 q0 a11) (λr8 w8 hc=>?_);obtain⟨pd,rfl,QT,s8⟩:=hc;replace du:=du.le QZ s8.le;replace k7:=k7.le s8.le;replace gl:=s8.aE gl;replace hM:=s8.lt hM;have:=S.size;replace S:=S.av s8;refine ab G G (cD G G G (cD G G G (aG G G (Rg.aZ G G (aK (T.aP (ab G G (eV G G G (ad ?_)))))))));refine bF G (λc9=>?_) (λc9=>?_)
    ·have eb:Ar p=false:=by
      by_cases h:Ar p=true
      ·unfold Ar at h;simp only[cr,decide_eq_true_eq]at h;exact absurd (by rw[if_pos ⟨by simp[h.1.2],h.2⟩]) c9
      ·simpa using h
     refine T.aP (Rg.aZ G G (aI ?_));exact aF rfl rfl ⟨S.back,λh=>by(rw[eb]at h;cases h),λ_=>rfl⟩
    ·have e9:(p.2.2.1.length=(p.2.2.2.map kM).length/\EX none p.2.2.1=true):=by
      by_cases h:(p.2.2.1.length=(p.2.2.2.map kM).length/\EX none p.2.2.1=true)
      ·exact h
      ·exact absurd (by rw[if_neg h];decide) c9
     replace QT:=QT e9.1 e9.2;refine aR (aK ?_);apply T.L8 [0,1,3,4,6,2,5,7,8,9] 5 [2,3,4] 2 aD mixed
     ·simp+decide only[Ay,ti,eI,rE,nZ,n0,nk,fe,k9,xT,cond_true,cond_false,Nat.reduceBEq,Nat.reduceAdd,beq_self_eq_true];rfl
     ·rfl
     ·rfl
     ·rfl
     ·rfl
     ·rfl
     ·rfl
     intro EU WS;have dY:=WS M;replace du:=du.le QZ dY.le;replace k7:=k7.le dY.le;replace gl:=dY.aE gl;replace hM:=dY.lt hM;have:=S.size;replace S:=S.av dY;refine ao (M:=M) (A:=RT.pa) (B:=(RT.int .i64).sl) dp G G ph QZ (pa0) G G QZ U3 (by repeat (first|exact bN _ _|refine bg (bO U3) ?_)) (λNw CD=>?_);refine Rg.de ?_;refine bD (M:=M) ax G G G G G U3 (by repeat (first|exact bN _ _|refine bg (bO U3) ?_)) (λUx vS=>?_);replace vS:((RT.int .i64).sl).V M _ p.1 Ux:=vS;refine Rg.de ?_;refine ao (M:=M) (A:=RT.pa) (B:=(RT.int .i64).sl) dp G G ph QZ (pa1) G G QZ U3 (by repeat (first|exact bN _ _|refine bg (bO U3) ?_)) (λaoR Xx=>?_);refine Rg.de ?_;refine bD (M:=M) ax G G G G G U3 (by repeat (first|exact bN _ _|refine bg (bO U3) ?_)) (λacj oQ=>?_);replace oQ:((RT.int .i64).sl).V M _ p.2.1 acj:=oQ;refine Rg.de (ab G G (Rg.de (fF ?_)));obtain⟨bb,oo,cs,ee,fr,rfl,ny,_⟩:=Xx.float;refine ⟨jC ⟨oW dp G ph QZ,⟨ic G ny (λh=>h),⟨ie,trivial⟩⟩⟩,?_⟩;have kp:=kT aD EU;refine aQ G G Kv (zj hM vS q0) (λv5 w5 hc=>?_);obtain⟨pL,s5⟩:=hc;replace oQ:=oQ.le s5.le;replace QT:=(QT.le QZ dY.le).le QZ s5.le;replace du:=du.le QZ s5.le;replace k7:=k7.le s5.le;replace gl:=s5.aE gl;replace hM:=s5.lt hM;have:=S.size;replace S:=S.av s5;refine(fun(kp:fy _ _ _)=>ad ⟨G,G,λ_=>kp,?_⟩) a02
     refine aQ G G Kv (zj hM oQ q0) (λv6 w6' hc=>?_);obtain⟨pw,Uy⟩:=hc;replace du:=du.le QZ Uy.le;replace k7:=k7.le Uy.le;replace pL:=pL.le Uy.le;replace oQ:=oQ.le Uy.le;replace QT:=QT.le QZ Uy.le;replace gl:=Uy.aE gl;replace hM:=Uy.lt hM;have:=S.size;replace S:=S.av Uy;refine(fun(kp:fy _ _ _)=>ad ⟨G,G,λ_=>kp,?_⟩) a02;refine dN (places:=[(0,1),(1,1),(2,1)]) Tryz.underlying215 ajF ajG rfl ⟨_,_,rfl,rfl,_,_,rfl,rfl,_,_,rfl,rfl,rfl⟩ (out:=[_,_,_]) ⟨0,[_],rfl,iR pL,by simp[Value.cells],1,[_],rfl,iR pw,by simp[Value.cells],2,[_],rfl,BD QT,by simp[Value.cells],rfl⟩ (ad ⟨rfl,rfl,λh=>absurd rfl h,?_⟩);refine ej (A:=RT.se) (a:=F9 p) G G hM (ail (x:=F9 p) pL pw QT) G (λu8 w8' hu8 Sy _=>?_);replace du:=du.le QZ Sy.le;replace k7:=k7.le Sy.le;replace pL:=pL.le Sy.le;replace oQ:=oQ.le Sy.le;replace QT:=QT.le QZ Sy.le;replace pw:=pw.le Sy.le;replace gl:=Sy.aE gl;replace hM:=Sy.lt hM;have:=S.size;replace S:=S.av Sy;refine ad ⟨G,G,λh=>absurd G h,aG G G (ad ⟨G,G,λh=>absurd G h,pH (aI ?_)⟩)⟩
     have eb:Ar p=true:=by
      unfold Ar;rw[decide_eq_true Ja,er,e9.2,decide_eq_true (by simpa using e9.1),ec.2 (λx hx=>by simp[qP x hx])];rfl
     exact aF rfl rfl ⟨S.back,λ_=>hu8,λh=>by(rw[eb]at h;cases h)⟩
theorem Hm {M:aL} {p:Pa} {v0:Value} (w0:World) (hM:Lt M w0) (hv:RT.pa.V M w0 p v0) (hR:OU p):
  Spec Tryz.prog 52 #[v0] w0 (λv w=>Step M w0 M w aD/\(Ar p=true->∃s,v= .tuple #[s,.int .i64 0]/\cM RT.se M w s (F9 p))/\(Ar p=false->v= .tuple #[.pointer none,.int .i64 1])):=by
 refine a7 (args:=[_]) (fn:=Tryz.f52) Tryz.func52 G (n:=10) Tryz.ntmps52 ?_;have S:Step M w0 M w0 aD:=aW;refine T.aP ?_;refine ej (A:=RT.pa) G G hM hv G (λu0 w1 du s0 _=>?_);replace hM:=s0.lt hM;have:=S.size;replace S:=S.av s0;refine aG G G (Rg.aZ G G (T.aP ?_));refine bR (A:=RT.pa) dp G Sw QZ G G G du bU (λv1 j9=>?_);refine aQ G G ajH (Hl _ hM j9 hR) (λr1 w2 hc=>?_);obtain⟨s2,fY,jz⟩:=hc
 obtain⟨o1,ho1⟩:∃o,r1= .pointer o:=by
  cases h:Ar p with
  |true=>obtain⟨b,o,_,h1,_⟩:=fY h;exact⟨_,h1⟩
  |false=>exact⟨none,jz h⟩
 subst ho1;replace du:=du.le QZ s2.le;replace hM:=s2.lt hM;have:=S.size;replace S:=S.av s2;refine Rg.aZ G G (aK (T.aP (ab G G (Rg.Mn Tryz.underlying31 G G G (ad ?_)))));refine bF G (λc2=>?_) (λc2=>?_)
 ·refine T.aP (aG G G (Rg.aZ G G (aI ?_)))
  have eb:Ar p=false:=by
   by_cases h:Ar p=true
   ·obtain⟨b,o,_,h1,_⟩:=fY h;rw[c2]at h1;cases h1
   ·simpa using h
  exact fc rfl rfl rfl ⟨S.back,λh=>by(rw[eb]at h;cases h),λ_=>rfl⟩
 ·refine aR (T.aP (ab G G (aG G G (Rg.aZ G G (aI ?_)))))
  have eb:Ar p=true:=by
   by_cases h:Ar p=true
   ·exact h
   ·have:=jz a84;simp at this;exact absurd this c2
  exact fc rfl rfl rfl ⟨S.back,λ_=>⟨_,rfl,fY eb⟩,λh=>by(rw[eb]at h;cases h)⟩
end Go.K
namespace Go.K
section
variable {P:Program} {r:Option Nat} {n:Nat} {L:Sl} {ds:List Deferred} {w:World} {K:Kt} {M:aL} {F:List (Nat×aL)}
def tX (l:List Oper) (m q d:Nat):Bool:=
 Nat.blt q m&&mJ l [q] m ((l[m]?.map cV).getD [])&&kd l (m+1)&&
 ((List.range' m (l.length-m)).all λj=>match l[j]? with
  |some o=>rT o.op&&(!(asks l o).contains d||(cV o).contains q)
  |none=>true)
theorem wV {l:List Oper} {m q d:Nat} (h:tX l m q d=true):q<m/\mJ l [q] m ((l[m]?.map cV).getD [])=true/\kd l (m+1)=true/\∀j o,m<=j->l[j]? =some o->rT o.op=true/\(d∈asks l o->q∈cV o):=by
 simp only[tX,cr,Nat.blt_eq]at h;obtain⟨⟨⟨h1,h2⟩,h3⟩,h4⟩:=h;refine ⟨h1,h2,h3,λj o hj ho=> ?_⟩;have eQ:=(al.1 ho).1;have:=ec.1 h4 j (List.mem_range'_1.2 ⟨hj,by omega⟩);rw[ho]at this;simp only[cr,Bool.or_eq_true,rH,fS]at this;refine ⟨this.1,λhd=> ?_⟩;rcases this.2 with h|h
 ·rw[<-Bool.not_eq_true,fS]at h;exact absurd hd h
 ·exact h
structure TJ (P:Program) (r:Option Nat) (n:Nat) (l:List Oper) (m q d:Nat) (c:Value) (Gs:List (Nat×Nat×(Value->Prop))) (L:Sl) (K:Kt) (ds:List Deferred) (D:Nat->Prop) (a:Act) (w:World) (p:Nat) (ac:Act) (Lp:Sl) (wq:World):Prop where
 p0:m<=p
 p1:p<=l.length
 dt:∀i,i<l.length->i≠q->(D i↔i<p)
 ag:iA n ac Lp ds
 tr:uF P r n l.toArray aD wq K 0 (l.drop p) Lp ds w
 yes:D q->a=ac
 no: ¬D q->ac=a.put (some d) c/\∀t u,(lk (j3 l q L) t=some u->a.tmps[t]? =some u)
 fl: ¬D q->∀g∈Gs,∃v,a.tmps[g.2.1]? =some v/\g.2.2 v
theorem put_comm (a:Act) {d:Nat} {e:Option Nat} (h:e≠some d) (c v:Value):(a.put (some d) c).put e v=(a.put e v).put (some d) c:=by
 cases e with
 |none=>rfl
 |some e=>
  have fh:e≠d:=λh'=>h (by rw[h'])
  simp only[Act.put];congr 1;apply Array.ext_getElem?;intro i;simp only[dv,Array.size_setIfInBounds];by_cases h1:e=i<;>by_cases h2:d=i<;>simp_all
theorem BH (a:Act) {d t:Nat} (c:Value) (h:t≠d):(a.put (some d) c).tmps[t]? =a.tmps[t]? :=by rw[gM,if_neg (λe=>h (by injection e with e;exact e.symm))]
theorem TJ.next {l:List Oper} {m q d:Nat} {c:Value} {Gs:List (Nat×Nat×(Value->Prop))} (hG:∀g∈Gs,∃o,l[g.1]? =some o/\o.dst=some g.2.1/\g.1<m) (dD:eY l 0=true) (fY:tX l m q d=true) {oq:Oper} (hq:l[q]? =some oq) (Hn:oq.dst=some d) (Xy:jF oq.op=true) (Sz:oq.guard=none)
  (iB:∀(ρ:Operand->Value) w,(∀x u,ev (j3 l q L) x=some u->ρ x=u)->(∀g∈Gs,g.2.2 (ρ (.tmp g.2.1)))->(execOp ρ oq).run P w= .ok (.value c) w)
  {Q:Exit->Act->World->Prop} {D:Nat->Prop} {a:Act} {w:World} {j:Nat} {o:Oper} {rest:List Nat} (ho:l[j]? =some o) (nt: ¬D j) (hp:∀k∈cV o,D k) {p:Nat} {ac:Act} {Lp:Sl} {wq:World} (hi:TJ P r n l m q d c Gs L K ds D a w p ac Lp wq)
  (hk:∀a' w',(∃p ac Lp wq,TJ P r n l m q d c Gs L K ds (λi=>i=j\/D i) a' w' p ac Lp wq)->wpOpsIn (FW r) 0 P l.toArray Q rest a' w'):wpOpsIn (FW r) 0 P l.toArray Q (j::rest) a w:=by
 obtain⟨hqm,_,Ax,sL⟩:=wV fY;have pb:=(al.1 ho).1;by_cases hjq:j=q
 ·subst hjq;rw[hq]at ho;cases ho;obtain⟨Jc,kH⟩:=hi.no nt;refine One.run (by simpa using hq) Xy (v:=c) ?_ (hk _ _ ⟨p,ac,Lp,wq,hi.p0,hi.p1,λi h1 h2=>⟨λh=>(hi.dt i h1 h2).1 (h.resolve_left h2),λh=> .inr ((hi.dt i h1 h2).2 h)⟩,hi.ag,hi.tr,λ_=>by rw[Jc,Hn],λh=>absurd (.inl rfl) h,λh=>absurd (.inl rfl) h⟩);unfold One;rw[if_pos (by simp[Region.wanted,Sz])];refine iB a.eval w (λx u hx=>?_) (λg hg=>by obtain⟨v,h1,h2⟩:=hi.fl nt g hg;simpa[Act.eval,h1]using h2)
  cases x with
  |tmp t=>simp only[ev]at hx;simp[Act.eval,kH t u hx]
  |const v=>simp only[ev]at hx;cases hx;rfl
  |global g=>simp only[ev]at hx;cases hx;rfl
  |func f=>simp only[ev]at hx;cases hx;rfl
 ·have hjp:j=p:=by
   have h1:p<=j:=by
    rcases cI j p with h|h
    ·exact absurd ((hi.dt j pb hjq).2 h) nt
    ·exact h
   have:=hi.p0;rcases cI m j with h|h
   ·have h2:=hp _ (lO Ax (j:=j) q0 ho);have:=(hi.dt (j-1) q0 q0).1 h2;omega
   ·omega
  subst hjp;obtain⟨ZT,hta⟩:=sL j o hi.p0 ho;have Cb:o.dst≠some d:=λh=>hjq (fK dD ho hq h Hn)
  have Dh:∀t∈asks l o,a.tmps[t]? =ac.tmps[t]? :=λt ht=>by
   by_cases hD:D q
   ·rw[hi.yes hD]
   ·rw[(hi.no hD).1,BH];rintro rfl;exact hD (hp q (hta ht))
  obtain⟨Ln,te⟩:=nw Dh
  have hdf:a.defers=ac.defers:=by
   by_cases hD:D q
   ·rw[hi.yes hD]
   ·rw[(hi.no hD).1,put_defers]
  have Bb:=hi.tr;rw[eW pb,(al.1 ho).2]at Bb;have h1:=Rg.run Bb ac hi.ag;refine DC (by simpa using ho) ZT Ln te hdf h1 (λe a w ⟨_,_,_,he,_⟩=>he) (λv w' ⟨L',o9,hA,_,L5,_,Vu⟩=>?_) (λd' w' ⟨L',o9,hA,_,L5,_⟩=>?_)
  ·rw[L5]at hA;refine hk _ _ ⟨j+1,ac.put o.dst v,L',wq,by have:=hi.p0;omega,by omega,λi h3 h4=>?_,hA,Vu,λh=>?_,λh=>?_,λh g hg=>?_⟩
   ·constructor
    ·rintro(h|h)
     ·omega
     ·have:=(hi.dt i h3 h4).1 h;omega
    ·intro h;rcases pN (show i<=j by omega)with h5|h5
     ·exact .inl h5
     ·exact .inr ((hi.dt i h3 h4).2 h5)
   ·rw[hi.yes (h.resolve_left (λe=>hjq e.symm))]
   ·have hD: ¬D q:=λh'=>h (.inr h')
    obtain⟨Jc,kH⟩:=hi.no hD;refine ⟨by rw[Jc,put_comm a Cb],λt u ht=> ?_⟩;obtain⟨h3,h4⟩:=jS (f:=kJ l q) ht;rw[gM,if_neg,kH t u ht];intro e;simp only[kJ,ec]at h3;have:=h3 o (au ho);simp only[e,beq_self_eq_true,Bool.not_true,Bool.false_or,fS]at this;exact hD (hp q this)
   ·obtain⟨v',h1,h2⟩:=hi.fl (λh'=>h (.inr h')) g hg;obtain⟨og,g1,g2,g3⟩:=hG g hg;refine⟨v',?_,h2⟩;rw[gM,if_neg,h1];intro e;have:=fK dD ho g1 e g2;have:=hi.p0;omega
  ·have h3:=hA.defers;rw[put_defers,L5]at h3;have h4:=congrArg List.length h3;rw[hi.ag.defers]at h4;simp at h4
theorem jm.Xz {l:List Oper} {wd:World} (m q d:Nat) (c:Value) {oq:Oper} (F:List (Nat×aL)) (S:List (cp M)) (Gs:List (Nat×Nat×(Value->Prop))) (Vs:S.length=m) (uP:Nat.blt m l.length=true) (dD:eY l 0=true) (fY:tX l m q d=true)
  (hq:l[q]? =some oq) (Hn:oq.dst=some d) (Xy:jF oq.op=true) (Sz:oq.guard=none) (hS:S[q]? =some (cp.eq c)) (iB:∀(ρ:Operand->Value) w,(∀x u,ev (j3 l q L) x=some u->ρ x=u)->(∀g∈Gs,g.2.2 (ρ (.tmp g.2.1)))->(execOp ρ oq).run P w= .ok (.value c) w)
  (hG:∀g∈Gs,∃o s,l[g.1]? =some o/\o.dst=some g.2.1/\g.1<m/\g.1≠q/\S[g.1]? =some s/\∀v w,s.p v w->g.2.2 v) (pQ:∀p∈F,∀b,p.2 b->M b) (hFq:∀p∈F,p.1≠q) (wy:Dy F l S) (gK:bL P r n F wd l S ds L l S 0)
  (jM:∀w',Step M wd M w' (jy (F.map (·.2)))->ig w' (λacc=>uF P r n l.toArray aD w' K 0 (l.drop m) (acc++j3 l l.length L) ds w') l S []):jm P r n l L ds wd K:=by
 intro a0 ha;obtain⟨hqm,L6,Ax,sL⟩:=wV fY;have ack:m<l.length:=by simpa[Nat.blt_eq]using uP
 have start:∀(D:Nat->Prop) a w,(∀i,i<m->i≠q->D i)->(∀i,m<=i->i<l.length->¬D i)->(∀i o,l[i]? =some o->D i->∀k∈cV o,D k)->Inv F S l wd L ds n (λi=>D i/\i<l.length) a w->∃p ac Lp wq,TJ P r n l m q d c Gs L K ds D a w p ac Lp wq:=by
  intro D a w gj jz jY hi
  obtain⟨ac,Jc⟩:∃ac,(D q->a=ac)/\(¬D q->ac=a.put (some d) c):=by
   by_cases hD:D q
   ·exact⟨a,λ_=>G,λh=>absurd hD h⟩
   ·exact⟨_,λh=>absurd h hD,λ_=>G⟩
  have hqn:d<n\/n<=d:=cI d n
  have lh:n<=ac.tmps.size:=by
   by_cases hD:D q
   ·rw[<-Jc.1 hD];exact hi.size
   ·rw[Jc.2 hD,nu];exact hi.size
  have hdf:ac.defers=ds:=by
   by_cases hD:D q
   ·rw[<-Jc.1 hD];exact hi.defers
   ·rw[Jc.2 hD,put_defers];exact hi.defers
  have OZ:∀t,t≠d->ac.tmps[t]? =a.tmps[t]? :=λt ht=>by
   by_cases hD:D q
   ·rw[<-Jc.1 hD]
   ·rw[Jc.2 hD,BH a c ht]
  have ajQ:d<a.tmps.size:=by
   have hg:=gK.take.get q oq (by rw[dG,Vs,if_pos hqm];exact hq);by_cases hD:D q
   ·obtain⟨v,h1,_⟩:=hi.done q oq (cp.eq c) d hq hS ⟨hD,by omega⟩ Hn;exact(Array.getElem?_eq_some_iff.1 h1).1
   ·refine Classical.byContradiction λsV=> ?_
    obtain⟨s,hs,acm⟩:=hg;rw[rC]at acm;rw[hS]at hs;cases hs
    have hpq:∀k∈cV oq,D k:=λk hk=>by
     have:=dA dD q oq hq k hk;exact gj k q0 q0
    have:=Inv.next (r:=r) (P:=P) hi dD wy pQ (rest:=[]) (Q:=λ_ a' _=>n<=a'.tmps.size/\∃v,a'.tmps[d]? =some v) ⟨cp.eq c,hS,acm⟩ hq (λh=>hD h.1) (λk hk=>⟨hpq k hk,by have:=dA dD q oq hq k hk;omega⟩) (λa' w' kF=>by
     obtain⟨v,h1,_⟩:=kF.done q oq (cp.eq c) d hq hS (.inl rfl) Hn;exact⟨kF.size,v,h1⟩)
    have uQ:One P r l.toArray w oq a c:=by
     unfold One;rw[if_pos (by simp[Region.wanted,Sz])]
     refine iB a.eval w (λx u hx=>?_) (λg hg=>by
      obtain⟨o,s,g1,g2,g3,g4,g5,g6⟩:=hG g hg;obtain⟨v,h1,h2⟩:=hi.done _ o s _ g1 g5 ⟨gj _ g3 g4,by omega⟩ g2;simpa[Act.eval,h1]using g6 _ _ h2)
     have kH:∀t u,lk (j3 l q L) t=some u->a.tmps[t]? =some u:=λt u ht=>by
      obtain⟨h3,h4⟩:=jS (f:=kJ l q) ht;refine hi.base t u h4 λi o iu Dl he=> ?_
      simp only[kJ,ec]at h3;have:=h3 o (au iu);simp only[he,beq_self_eq_true,Bool.not_true,Bool.false_or,fS]at this;exact hD (jY i o iu Dl.1 q this)
     cases x with
     |tmp t=>simp only[ev]at hx;simp[Act.eval,kH t u hx]
     |const v=>simp only[ev]at hx;cases hx;rfl
     |global g=>simp only[ev]at hx;cases hx;rfl
     |func f=>simp only[ev]at hx;cases hx;rfl
    simp only[wpOpsIn,gV,hq]at this;rw[if_pos (by simp[Region.wanted,Sz])]at this;obtain⟨_,h2⟩:=this;unfold One at uQ;rw[if_pos (by simp[Region.wanted,Sz])]at uQ;rw[Oper.semAt_eq _ _ _ (lR Xy),uQ]at h2;rw[Oper.uponIn_value]at h2;obtain⟨_,v,h3⟩:=h2;rw[Hn]at h3;have:=(Array.getElem?_eq_some_iff.1 h3).1;simp[Act.put]at this;exact sV this
  have ajR:∃v,ac.tmps[d]? =some v/\v=c:=by
   by_cases hD:D q
   ·rw[<-Jc.1 hD];obtain⟨v,h1,h2⟩:=hi.done q oq (cp.eq c) d hq hS ⟨hD,by omega⟩ Hn;exact⟨v,h1,h2⟩
   ·refine⟨c,?_,G⟩;rw[Jc.2 hD,gM,if_pos rfl];simp[dv,ajQ]
  have iC:∀{i:Nat} {o:Oper},(l.take m)[i]? =some o->l[i]? =some o/\i<m:=λ{i o} h=>by
   rw[dG]at h
   split at h
   ·exact⟨h,by assumption⟩
   ·cases h
  have kI:Step M wd M w (jy (F.map (·.2))):=hi.step.ew (λb ⟨p,hp,hD,hb⟩=>fJ.2 ⟨p.2,cx.2 ⟨p,hp,rfl⟩,hb⟩) (λb hb=>by
   obtain⟨N,hN,Dk⟩:=fJ.1 hb;obtain⟨p,hp,rfl⟩:=cx.1 hN;exact pQ p hp b Dk)
  have hE:=(jM w kI).take;rw[Vs]at hE
  obtain⟨acc,h1,h2⟩:=ig.use (a:=ac) (l.take m) S [] (λi o s h1 h2 h3=>by
    obtain⟨h4,h5⟩:=iC h1;by_cases Uz:i=q
    ·subst Uz;rw[hq]at h4;cases h4;rw[Hn]at h3;cases h3
    ·exact hi.fin i o s h4 h2 ⟨gj i h5 Uz,by omega⟩ h3)
   (λi o s e h1 h2 h3=>by
    obtain⟨h4,h5⟩:=iC h1;by_cases Uz:i=q
    ·subst Uz;rw[hq]at h4;cases h4;rw[Hn]at h3;cases h3;rw[hS]at h2;cases h2;exact ajR
    ·obtain⟨v,h6,h7⟩:=hi.done i o s e h4 h2 ⟨gj i h5 Uz,by omega⟩ h3;exact⟨v,by rw[OZ e (λhe=>Uz (fK dD h4 hq h3 (by rw[Hn,he])))];exact h6,h7⟩)
   (λt v h=>by simp[lk]at h) hE
  refine⟨m,ac,_,w,bu _,by omega,λi h3 h4=>⟨λh=>?_,λh=>gj i h h4⟩,⟨lh,hdf,λt v h=>?_⟩,h1,Jc.1,λhD=>⟨Jc.2 hD,λt u ht=>?_⟩,λhD g hg=>by
   obtain⟨o,s,g1,g2,g3,g4,g5,g6⟩:=hG g hg;obtain⟨v,h1,h2⟩:=hi.done _ o s _ g1 g5 ⟨gj _ g3 g4,by omega⟩ g2;exact⟨v,h1,g6 _ _ h2⟩⟩
  ·rcases cI i m with h5|h5
   ·exact h5
   ·exact absurd h (jz i h5 h3)
  ·rcases lz h with h|h
   ·exact h2 t v h
   ·obtain⟨h3,h4⟩:=jS (f:=kJ l l.length) h
    have fh:∀(i:Nat) (o:Oper),l[i]? =some o->o.dst≠some t:=λi o iu he=>by
     simp only[kJ,ec]at h3;have:=h3 o (au iu);simp only[he,beq_self_eq_true,Bool.not_true,Bool.false_or,fS]at this;have h7:=dA dD i o iu _ this;have h8:=(al.1 iu).1;omega
    rw[OZ t (λe=>fh q oq hq (by rw[Hn,e]))];exact hi.base t v h4 λi o iu _=>fh i o iu
  ·obtain⟨h3,h4⟩:=jS (f:=kJ l q) ht;refine hi.base t u h4 λi o iu Dl he=> ?_
   simp only[kJ,ec]at h3;have:=h3 o (au iu);simp only[he,beq_self_eq_true,Bool.not_true,Bool.false_or,fS]at this;exact hD (jY i o iu Dl.1 q this)
 refine⟨λD a w=>((∀i,m<=i->i<l.length->¬D i)/\Inv F S l wd L ds n (λi=>D i/\i<l.length) a w)\/∃p ac Lp wq,TJ P r n l m q d c Gs L K ds D a w p ac Lp wq,λD D' a w hJ hD=>?_,λQ D a w j o rest hj ho nt hp jY hJ hk=>?_,λa w hJ=>?_,.inl ⟨λi _ _ h=>h,?_⟩⟩
 ·rcases hJ with⟨h1,h2⟩|⟨p,ac,Lp,wq,h⟩
  ·refine .inl ⟨λi h3 h4 h5=>h1 i h3 h4 ((hD i h4).1 h5),?_⟩;have:(λi=>D' i/\i<l.length)=λi=>D i/\i<l.length:=funext λi=>propext ⟨fun⟨h3,h4⟩=>⟨(hD i h4).1 h3,h4⟩,fun⟨h3,h4⟩=>⟨(hD i h4).2 h3,h4⟩⟩
   rw[this];exact h2
  ·exact .inr ⟨p,ac,Lp,wq,h.p0,h.p1,λi h3 h4=>(hD i h3).trans (h.dt i h3 h4),h.ag,h.tr,λh3=>h.yes ((hD q q0).1 h3),λh3=>h.no λh4=>h3 ((hD q q0).2 h4),λh3=>h.fl λh4=>h3 ((hD q q0).2 h4)⟩
 ·rcases hJ with⟨h1,h2⟩|⟨p,ac,Lp,wq,h⟩
  ·rcases cI j m with F5|F5
   ·have hg:=gK.take.get j o (by rw[dG,Vs,if_pos F5];exact ho);rw[rC]at hg;refine h2.next dD wy pQ hg ho (λh=>nt h.1) (λk pf=>⟨hp k pf,by have:=dA dD j o ho k pf;omega⟩) λa' w' kF=>hk a' w' (.inl ⟨λi h3 h4 h5=>?_,?_⟩)
    ·rcases h5 with h5|h5
     ·omega
     ·exact h1 i h3 h4 h5
    ·have:(λi=>(i=j\/D i)/\i<l.length)=λi=>i=j\/D i/\i<l.length:=funext λi=>propext ⟨fun⟨h3,h4⟩=>h3.elim .inl λh=> .inr ⟨h,h4⟩,λh=>h.elim (λh=>⟨.inl h,by omega⟩) λh=>⟨.inr h.1,h.2⟩⟩
     rw[this];exact kF
   ·have ajS:j=m:=by
     rcases cI m j with h|h
     ·have:=hp _ (lO Ax (j:=j) q0 ho);exact absurd this (h1 (j-1) q0 q0)
     ·omega
    subst ajS;rw[ho]at L6;obtain⟨p,ac,Lp,wq,h⟩:=start D a w (λi hi Uz=>mK (D:=D) jY j (cV o) L6 hp i hi (by simpa using Uz)) h1 jY h2;exact h.next (λg hg=>by obtain⟨o,s,g1,g2,g3,_⟩:=hG g hg;exact⟨o,g1,g2,g3⟩) dD fY hq Hn Xy Sz iB ho nt hp λa' w' h'=>hk a' w' (.inr h')
  ·exact h.next (λg hg=>by obtain⟨o,s,g1,g2,g3,_⟩:=hG g hg;exact⟨o,g1,g2,g3⟩) dD fY hq Hn Xy Sz iB ho nt hp λa' w' h'=>hk a' w' (.inr h')
 ·rcases hJ with⟨h1,_⟩|⟨p,ac,Lp,wq,h⟩
  ·exact absurd ack (h1 m (bu _) ack)
  ·have xG:p=l.length:=by
    rcases cI p l.length with h3|h3
    ·have h4:=(h.dt p h3 (by have:=h.p0;omega)).1 h3;omega
    ·have:=h.p1;omega
   have Bb:=h.tr;rw[xG,List.drop_length]at Bb;exact⟨Lp,ds,by rw[h.yes (by show q<l.length;omega)];exact h.ag,Bb⟩
 ·refine⟨(Step.refl M wd).ew a18 (λb ⟨p,hp,_,hb⟩=>pQ p hp b hb),λi o s _ _ h=>h.1.elim,ha.size,ha.defers,λi o s e _ _ h=>h.1.elim,λt v h _=>ha.at_ t v h,λi o _ h=>h.1.elim⟩
theorem T.UA {id:Nat} {l l':List Oper} (π:List Nat) (m q d:Nat) (c:Value) {oq:Oper} (F:List (Nat×aL)) (S:List (cp M)) (Gs:List (Nat×Nat×(Value->Prop))) (hm:P.follows .mixedOrders=true) (L9:Ay π l=l') (wC:eY l 0=true) (hπ:lU π l.length=true) (Vs:S.length=m) (uP:Nat.blt m l'.length=true) (dD:eY l' 0=true) (fY:tX l' m q d=true)
  (hq:l'[q]? =some oq) (Hn:oq.dst=some d) (Xy:jF oq.op=true) (Sz:oq.guard=none) (hS:S[q]? =some (cp.eq c)) (iB:∀(ρ:Operand->Value) w,(∀x u,ev (j3 l' q L) x=some u->ρ x=u)->(∀g∈Gs,g.2.2 (ρ (.tmp g.2.1)))->(execOp ρ oq).run P w= .ok (.value c) w)
  (hG:∀g∈Gs,∃o s,l'[g.1]? =some o/\o.dst=some g.2.1/\g.1<m/\g.1≠q/\S[g.1]? =some s/\∀v w,s.p v w->g.2.2 v) (pQ:∀p∈F,∀b,p.2 b->M b) (hFq:∀p∈F,p.1≠q) (wy:Dy F l' S)
  (h:∀wD,(∀M,Step M w M wD aD)->bL P r n F wD l' S ds L l' S 0/\∀w',Step M wD M w' (jy (F.map (·.2)))->ig w' (λacc=>uF P r n l'.toArray aD w' K 0 (l'.drop m) (acc++j3 l' l'.length L) ds w') l' S []):T P r n (.region id l.toArray true) L ds w K:=by
 subst L9;exact jm.t hm wC λwD hD=> .perm π hπ wC (.Xz m q d c F S Gs Vs uP dD fY hq Hn Xy Sz hS iB hG pQ hFq wy (h wD hD).1 (h wD hD).2)
theorem Ho {s:TypeId} {fs:Array Field} {fd:Field} {j size o o' b:Nat} {zv:Value} {bytes:Nat} {x:Operand} {dst:Option Tmp} {ty:TypeId} {pos:String} {af:Array Edge} {gd:Option (Nat×Bool)} (hu:P.underlying s=some (.struct fs)) (Ve:fs[j]? =some fd) (ho:o+fd.offset=o') (hi:TI P fd.type zv size bytes) (hs:size≠0)
  {ρ:Operand->Value} (hx:ρ x= .pointer (some ⟨b,o,none⟩)) (w:World):(execOp ρ {dst,op:= .fieldAddr s x j,type:=ty,pos,after:=af,guard:=gd}).run P w= .ok (.value (.pointer (some ⟨b,o',none⟩))) w:=by
 simp only[execOp,hx];simp[Instr.fieldAt,run_underlying hu,Ve,Instr.sureAddr,fieldPlace,hi.sizeOf,hs,<-ho,Addr.add_mid]
end
open Go.Proofs
set_option maxRecDepth 10000
def mR:Int->List En->Int
 |last,[]=>last
 |_,e::L=>mR e.2 L
def BI:Int->List En->Bool
 |_,[]=>true
 |last,e::L=>decide (nS last e=0)&&BI e.2 L
theorem O0:∀{L:List En} {last:Int} {i:Nat} {e:En},BI last L=true->L[i]? =some e->nS (mR last (L.take i)) e=0/\mR last (L.take (i+1))=e.2
 |[],_,_,_,_,h=>by simp at h
 |x::L,last,0,e,h,hi=>by
  simp only[BI,cr,decide_eq_true_eq]at h;simp at hi;subst hi;exact⟨by simpa[mR]using h.1,by simp[mR]⟩
 |x::L,last,i+1,e,h,hi=>by
  simp only[BI,cr,decide_eq_true_eq]at h;have:=O0 h.2 af3;simpa[mR]using this
theorem BJ {last:Int} {e:En} (h:nS last e=0):iy e.1/\last<e.2:=by
 unfold nS at h
 split at h
 ·rename_i h1;exact absurd h h1
 ·rename_i h1
  split at h
  ·cases h
  ·exact⟨IW (by simpa using h1),by omega⟩
theorem kP:∀{L:List En} {last:Int},BI last L=true->∀e∈L,iy e.1
 |[],_,_,e,h=>by cases h
 |x::L,last,h,e,he=>by
  simp only[BI,cr,decide_eq_true_eq]at h;rcases dz.1 he with rfl|he
  ·exact(BJ h.1).1
  ·exact kP h.2 e he
theorem BK:∀{L:List En} {last:Int},BI last L=true->fT last (L.map (·.2))=true
 |[],_,_=>rfl
 |x::L,last,h=>by
  simp only[BI,cr,decide_eq_true_eq]at h;simp only[eI,fT,cr,decide_eq_true_eq];exact⟨(BJ h.1).2,BK h.2⟩
def jq (L:List En):Pa:=(L.map (·.1.1),L.map (·.2),keysOf L,(keysOf L).map (pk L))
theorem KC {x:List Po} (h:x≠[]):∃p∈x,E6 x=p.1:=by
 unfold E6
 cases hl:x.getLast? with
 |none=>exact absurd (List.getLast?_eq_none_iff.1 hl) h
 |some p=>exact⟨p,List.mem_of_getLast? hl,rfl⟩
theorem XA {L:List En} (h:BI (-1) L=true) (hn:L.length<=1000000):Ar (jq L)=true:=by
 have hF:=kP h;have h1:(keysOf L).map (pk L)=(jq L).2.2.2:=rfl;unfold Ar;have e1:decide ((jq L).1.length=(jq L).2.1.length)=true:=by simp[jq]
 have e2:fT (-1) (jq L).2.1=true:=BK h;have e3:decide ((jq L).2.2.1.length=(jq L).2.2.2.length)=true:=by simp[jq]
 have e4:EX none (jq L).2.2.1=true:=Xa (oJ L)
 have e5:(jq L).2.2.2.all (λx=> !mZ ((jq L).1.length:Int) x)=true:=by
  refine ec.2 λx hx=> ?_
  rw[<-h1]at hx;obtain⟨k,hk,rfl⟩:=cx.1 hx;have fh:pk L k≠[]:=NX 0 (mc.1 hk)
  have ajT:(pk L k).isEmpty=false:=by
   cases h:pk L k with
   |nil=>exact absurd h fh
   |cons a b=>rfl
  have tU:eD (-1) (pk L k)=true:=xL k L 0 (-1) hF q0 q0;obtain⟨p,hp,hl⟩:=KC fh;have:=(vL k L 0 hF).2 p hp;have hlen:((jq L).1.length:Int)=L.length:=by simp[jq]
  simp only[mZ,tU,ajT,hlen,hl];rw[decide_eq_false q0];rfl
 rw[e1,e2,e3,e4,e5];rfl
theorem SB {L:List En} (hF:∀e∈L,iy e.1) (hn:L.length<=1000000) (k:List UInt8):Room (pk L k):=by
 have h1:=vL k L 0 hF;have tU:eD (-1) (pk L k)=true:=xL k L 0 (-1) hF q0 q0;have rM:∀p∈pk L k,p.2.length<=500:=λp hp=>(h1.2 p hp).2.2
 obtain⟨h2,h3⟩:=vM (pk L k) (-1) 500 q0 tU rM q0;have hl:(pk L k).length<=L.length:=h1.1;exact⟨λp hp=>by have:=rM p hp;omega,by omega,by omega,by omega⟩
theorem SC {L:List En} (hF:∀e∈L,iy e.1) (hn:L.length<=1000000):OU (jq L):=by
 have hk:(keysOf L).length<=500000000:=by
  have h1:=(oJ L).nodup.length_le_of_subset (l₂:=jw L) (λx hx=>mc.1 hx);have:=vP hF;omega
 refine ⟨by simp[jq];omega,by simp[jq];omega,by simp only[jq];omega,by simp[jq];omega,λx hx=> ?_⟩;obtain⟨k,_,rfl⟩:=cx.1 hx;exact SB hF hn k
theorem XB {M:aL} {w:World} {e:En} {v:Value} (h:RT.en.V M w e v):(-9223372036854775808<=e.1.1/\e.1.1<=9223372036854775807)/\ -9223372036854775808<=e.2/\e.2<=9223372036854775807:=by
 obtain⟨vs,⟨va,vb,_,⟨vc,vd,_,⟨_,h1⟩,_⟩,⟨_,h2⟩⟩,_⟩:=h;exact⟨h1,h2⟩
def ZP (B b:Nat) (vi vs:Value):aL:=λk=>B<=k/\k≠b/\vi.ownBlock≠some k/\vs.ownBlock≠some k
theorem Own.UB {κ:IntKind} {e:TypeId} {M M' N:aL} {w w':World} {base:Nat} {v:Value} {xs:List Int} (h:Own (RT.int κ) e (qO v) w base v xs) (s:Step M w M' w' N) (hn:∀c,v.ownBlock=some c->¬N c):Own (RT.int κ) e (qO v) w' base v xs:=
 ((h.Ru (M':=allM) (λ_ _=>trivial)).Z8 s.all hn).lone
theorem Step.ajU {M M' N:aL} {w w':World} (s:Step M w M' w' N) {v:Value} (hv:∀b,v.ownBlock=some b->b<w'.heap.size/\(w.heap.size<=b\/M' b)):Step M w (lL M' v) w' N:=
 ⟨λh k hk=>hk.elim (λh1=>(hv k h1).1) (λh1=>s.lt h k h1),s.os,s.tape,s.output,s.size,λk hk=>⟨λh=>by
  rcases h with h|h
  ·rcases(hv k h).2 with h1|h1
   ·omega
   ·exact(s.mem k hk).1 h1
  ·exact(s.mem k hk).1 h,λh=> .inr ((s.mem k hk).2 h)⟩,s.same,s.sub⟩
namespace TKSegA
theorem acn:Enters Tryz.prog 159:=enters Tryz.func159 rfl QZ
theorem aco:Enters Tryz.prog 160:=enters Tryz.func160 rfl QZ
theorem acp:Enters Tryz.prog 201:=enters Tryz.func201 rfl QZ
end TKSegA
open TKSegA
set_option maxRecDepth 10000
theorem KD {M:aL} {s:Se} {v0:Value} (w0:World) (hs:cM RT.se M w0 v0 s):
  Spec Tryz.prog 108 #[v0] w0 (λv w=>v= .int .i64 (s.1.length:Int)/\w=w0):=by
 refine a7 (args:=[_]) (fn:=Tryz.f108) Tryz.func108 G (n:=8) Tryz.ntmps108 (T.aP (Rg.aZ G G (T.aP (ab G G (a8 G hs.lV G ?_)))));refine ao (A:=RT.se) (B:=(RT.int .i64).sl) Tryz.underlying215 G G ph QZ se0 G G QZ hs bU (λWL EN=>?_);refine bD ax G G G G G EN bU (λacq Jd=>?_);replace Jd:((RT.int .i64).sl).V M _ s.1 acq:=Jd;refine bz ax G Jd G (Rg.aZ G G (aI ?_));exact ak2
theorem zx {α:Type} {p:α->Bool}:∀{xs:List α} {i:Nat},i<=xs.length->(∀(k:Nat) x,k<i->xs[k]? =some x->p x=true)->(∀(k:Nat) x,i<=k->xs[k]? =some x->p x=false)->xs.countP p=i
 |[],i,hi,_,_=>by simp at hi;simp[hi]
 |x::xs,0,_,_,h2=>by
  rw[List.countP_eq_zero.2];intro a ha;obtain⟨k,hk⟩:=bK.1 ha;simp[h2 k a (bp _) hk]
 |x::xs,i+1,hi,h1,h2=>by
  rw[List.countP_cons_of_pos (h1 0 x q0 rfl),zx af3 (λk y hk hy=>h1 (k+1) y q0 (by simpa using hy)) (λk y hk hy=>h2 (k+1) y q0 (by simpa using hy))]
end Go.K
namespace Go.K
open Go.Proofs
namespace TKSegB
theorem KA:TI Tryz.prog 249 (.slice none 0 0) 1 24:=by unfold TI;kernel_rfl
theorem ajV:Enters Tryz.prog 271:=enters Tryz.func271 rfl QZ
theorem ajW:Enters Tryz.prog 301:=enters Tryz.func301 rfl QZ
theorem ajX:Enters Tryz.prog 302:=enters Tryz.func302 rfl QZ
end TKSegB
open TKSegB
set_option maxRecDepth 10000
def LC (ns:List (List UInt8)) (k:List UInt8):Nat:=ns.countP λx=>decide (x<k)
theorem acr {ns:List (List UInt8)} (h:GY ns) {i j:Nat} {x y:List UInt8} (jl:i<=j) (hx:ns[i]? =some x) (hy:ns[j]? =some y): ¬y<x:=by
 rcases pN jl with rfl|h1
 ·rw[hx]at hy;cases hy;exact j7 x
 ·exact j8 (gZ h hx hy h1)
theorem CW {ns:List (List UInt8)} (h:GY ns) {k:List UInt8}:(k∈ns->ns[LC ns k]? =some k)/\∀x,ns[LC ns k]? =some x->¬x<k:=by
 have key:∀{ns:List (List UInt8)},GY ns->(k∈ns->ns[LC ns k]? =some k)/\∀x,ns[LC ns k]? =some x->¬x<k:=by
  intro ns
  induction ns with
  |nil=>exact λ_=>⟨(λh=>by cases h),λx h=>by simp at h⟩
  |cons y ns ih=>
   intro h;have h':=jx.1 h;by_cases hy:y<k
   ·have e:LC (y::ns) k=LC ns k+1:=by unfold LC;rw[List.countP_cons_of_pos (by simpa using hy)]
    rw[e];simp only[List.getElem?_cons_succ];refine⟨λhk=>(ih h'.2).1 ?_,(ih h'.2).2⟩;rcases dz.1 hk with rfl|hk
    ·exact absurd hy (j7 _)
    ·exact hk
   ·have gj:∀x∈ns,¬x<k:=λx hx eQ=>hy (nQ (h'.1 x hx) eQ)
    have e:LC (y::ns) k=0:=by
     unfold LC;rw[List.countP_eq_zero];intro a ha;rcases dz.1 ha with rfl|ha
     ·simpa using hy
     ·simpa using gj a ha
    rw[e];refine⟨λhk=>?_,λx hx=>by simp at hx;subst hx;exact hy⟩;rcases dz.1 hk with rfl|hk
    ·rfl
    ·exact absurd (h'.1 k hk) hy
 exact key h
def geN (ns:List (List UInt8)) (k:List UInt8) (i:Nat):Bool:=match ns[i]? with|some x=> !decide (x<k)|none=>true
theorem zy {ns:List (List UInt8)} {k x:List UInt8} {i:Nat} (h:ns[i]? =some x):geN ns k i= !decide (x<k):=by unfold geN;rw[h]
theorem O1 {ns:List (List UInt8)} (h:GY ns) {k:List UInt8}:ns[LC ns k]? =some k↔k∈ns:=⟨λh=>au h,(CW h).1⟩
theorem Hp {M:aL} {n:Nat} {g:FuncId} {cap:List Value} {good:Nat->Bool} (w0:World) (hg:Enters Tryz.prog g) (UC:∀i j,i<=j->j<n->good i=true->good j=true) (hn:n<=4611686018427387904) (ht:∀(i:Nat) w,i<n->Step M w0 M w aD->Spec Tryz.prog g ([.int .i64 (i:Int)]++cap:List Value).toArray w (λv w'=>v= .bool (good i)/\Step M w M w' aD)):
  Spec Tryz.prog 301 #[.int .i64 (n:Int),.func (.func g) #[] cap.toArray] w0 (λv w=>∃m:Nat,v= .int .i64 (m:Int)/\m<=n/\(∀i,i<m->good i=false)/\(∀i,m<=i->i<n->good i=true)/\Step M w0 M w aD):=by
 refine a7 (args:=[_,_]) (fn:=Tryz.f301) Tryz.func301 G (n:=23) Tryz.ntmps301 (T.aP (Rg.aZ G G (T.aP (Rg.aZ G G (aK (aX ?_))))));refine cY (σ:=Nat×Nat) (λq=>[(0,.int .i64 (q.2:Int)),(1,.func (.func g) #[] cap.toArray),(5,.int .i64 (q.1:Int))]) (λq w=>Step M w0 M w aD/\q.1<=q.2/\q.2<=n/\(∀i,i<q.1->good i=false)/\(∀i,q.2<=i->i<n->good i=true)) (λq=>q.2-q.1) (0,n) a00 ?_ ?_
 ·exact⟨aW,bp _,bu _,λi h=>absurd h (eC _),λi h h'=>by omega⟩
 ·rintro⟨i,j⟩ w ⟨S,jl,hj,h1,h2⟩;dsimp only at jl hj h1 h2 ⊢;refine aK (T.aP (ab G G (ab G G (cy G G G (ad ?_)))));refine bF G (λc2=>?_) (λc2=>?_)
  ·refine aR (aX (T.aP (ab G G (ab G G (ab G G (jB G G G q0 (Rg.xZ G G G q0 (bC G G G q0 (br (v':= .int .i64 ((i+(j-i)/2:Nat):Int)) (congrArg _ q0) (aG G G ?_))))))))));refine ad (T.aP (ab G G (ab G G ?_)));refine uI (first:=[]) (captured:=cap) (xs:=[.tmp 17]) G G G hg (vs:=[.int .i64 ((i+(j-i)/2:Nat):Int)]) (ht (i+(j-i)/2) _ q0 S) (λr4 w4 hc=>?_);obtain⟨rfl,s4⟩:=hc;refine br (v':= .bool (decide (good (i+(j-i)/2)=true))) (by simp) ?_;replace S:=S.av s4;refine ad ?_;refine bF G (λc4=>?_) (λc4=>?_)
   ·refine aM (ab G G (Rg.aZ G G ?_));refine⟨G,(i,i+(j-i)/2),a00,?_,?_⟩
    ·exact⟨S,by dsimp only;omega,by dsimp only;omega,h1,λk hk hkn=>UC _ _ hk hkn c4⟩
    ·dsimp only;omega
   ·refine aM (ab G G (bC G G G q0 (Rg.aZ G G ?_)));refine⟨G,(i+(j-i)/2+1,j),a00,?_,?_⟩
    ·exact⟨S,by dsimp only;omega,hj,λk hk=>by
      cases h:good k with
      |false=>rfl
      |true=>exact absurd (UC k (i+(j-i)/2) (by dsimp only at hk;omega) q0 h) c4,h2⟩
    ·dsimp only;omega
  ·refine cN (T.aP (ab G G (Rg.aZ G G (aI ?_))));have e:i=j:=by omega
   subst e;exact aF G G ⟨i,G,hj,h1,h2,S⟩
theorem E8 {M:aL} {d:Di} {v0:Value} {i bd bk:Nat} {k x:List UInt8} (w0:World) (hd:cM RT.di M w0 v0 d) (gd:w0.heap[bd]? =some (.cells #[v0] 213 (0,0))) (gk:w0.heap[bk]? =some (.cells #[sv k] 9 (0,0))) (hx:d.1[i]? =some x):
  Spec Tryz.prog 302 #[.int .i64 (i:Int),.pointer (some ⟨bd,0,none⟩),.pointer (some ⟨bk,0,none⟩)] w0 (λv w=>v= .bool (!decide (x<k))/\Step M w0 M w aD):=by
 have hM:True:=trivial;refine a7 (args:=[_,_,_]) (fn:=Tryz.f302) Tryz.func302 G (n:=14) Tryz.ntmps302 (T.aP (Rg.aZ G G (aK ?_)));apply uJ mixed rfl rfl;intro J4 MS;have l4:=MS M;replace gd:=l4.aE gd;replace gk:=l4.aE gk;replace hd:=hd.le QZ l4.le;refine aN Tryz.underlying213 G G G gd G (br (v':=v0) G (Rg.de (a8 G hd.lV G (Rg.de ?_))));refine ao (A:=RT.di) (B:=RT.str.sl) Tryz.underlying310 G G xp QZ di0 G G QZ hd bU (λpn SD=>?_);refine Rg.de ?_;refine bD aB G G G G G SD bU (λvn xJ=>?_);replace xJ:(RT.str.sl).V M _ d.1 vn:=xJ;refine Rg.de (ab G G (Rg.de ?_));have qM:=(al.1 hx).1;refine cB aB I9 G G G xJ bU q0 (λu a hg hu=>?_);obtain rfl:x=a:=aJ (hx.symm.trans (by simpa using hg));refine Rg.de ?_;refine bD az G G G G G hu bU (λvx yV=>?_);obtain rfl:=dS yV;refine Rg.de (aN az G G G gk G (br (v':=sv k) G (Rg.de (Rg.WE G G G (Rg.de (aG G G (Rg.de (fF (aI ?_)))))))));exact aF rfl rfl ⟨by rw[decide_not],l4⟩
theorem Hq {M:aL} {d:Di} {v0:Value} {k:List UInt8} (w0:World) (hM:Lt M w0) (hd:cM RT.di M w0 v0 d) (O2:GY d.1):
  Spec Tryz.prog 271 #[v0,sv k] w0 (λv w=>v= .tuple #[.int .i64 (LC d.1 k:Int),.bool (decide (k∈d.1))]/\Step M w0 M w aD):=by
 refine a7 (args:=[_,_]) (fn:=Tryz.f271) Tryz.func271 G (n:=33) Tryz.ntmps271 ?_;have S:Step M w0 M w0 aD:=aW;refine T.aP ?_;refine np M G G (λAR acs ajZ aj0 fE zz=>?_);replace fE:acs.heap[AR]? =some (.cells #[v0] 213 (0,0)):=by rw[BD hd]at fE;exact fE
 obtain⟨zA,zB⟩:∃M',M'=ins M AR:=⟨_,rfl⟩;rw[<-zB]at zz;have eT:zA AR:=by rw[zB];exact .inl G
 replace hd:=hd.le QZ zz.le;replace hM:=zz.lt hM;have:=S.size;replace S:=S.av zz;refine np zA G G (λjN vH Kd Ke eO iX=>?_);obtain⟨fM,ia⟩:∃M',M'=ins zA jN:=⟨_,rfl⟩;rw[<-ia]at iX;have dX:fM jN:=by rw[ia];exact .inl G
 change vH.heap[jN]? =some (.cells #[sv k] _ _)at eO;have:=ah fE;replace eT:=(iX.mem _ this).2 eT;replace fE:=iX.aE fE;replace hd:=hd.le QZ iX.le;replace hM:=iX.lt hM;have:=S.size;replace S:=S.av iX;refine aG G G (Rg.aZ G G (T.aP (aN Tryz.underlying213 G G G fE G (br (v':=v0) G (a8 G hd.lV G ?_)))));refine ao (A:=RT.di) (B:=RT.str.sl) Tryz.underlying310 G G xp QZ di0 G G QZ hd bU (λpn SD=>?_);refine bD aB G G G G G SD bU (λvn xJ=>?_);replace xJ:(RT.str.sl).V fM _ d.1 vn:=xJ;have Za:=cQ xJ;refine bz aB G xJ G (jj (xs:=[]) (ys:=[.tmp 2,.tmp 3]) G G G ?_)
 refine aQ G G ajW (Hp (M:=fM) (n:=d.1.length) (cap:=[.pointer (some ⟨AR,0,none⟩),.pointer (some ⟨jN,0,none⟩)]) (good:=geN d.1 k) _ ajX (λi j jl hj h=>by
  have hi:=an (show i<d.1.length by omega);have wz:=an hj;rw[zy hi]at h;rw[zy wz];simp only[rH,decide_eq_false_iff_not]at h ⊢;intro eQ;rcases mO d.1[i] d.1[j]with h1|h1|h1
  ·exact h (nQ h1 eQ)
  ·rw[h1]at h;exact h eQ
  ·exact acr O2 jl hi wz h1) q0 (λi w hi s=>by
  have hx:=an hi;rw[zy hx];exact E8 w (hd.le QZ s.le) (s.aE fE) (s.aE eO) hx)) (λr1 w1 hc=>?_)
 obtain⟨m,rfl,hm,Y6,Z0,s1⟩:=hc;have em:LC d.1 k=m:=zx hm (λi x hi hx=>by have:=Y6 i hi;rw[zy hx]at this;simpa using this) (λi x hi hx=>by have:=Z0 i hi (al.1 hx).1;rw[zy hx]at this;simpa using this);have:=ah fE;replace eT:=(s1.mem _ this).2 eT;replace fE:=s1.aE fE;have:=ah eO;replace dX:=(s1.mem _ this).2 dX;replace eO:=s1.aE eO;replace hd:=hd.le QZ s1.le;replace hM:=s1.lt hM;have:=S.size;replace S:=S.av s1;refine Rg.aZ G G (aK ?_);apply uJ mixed rfl rfl;intro wD2 sA2;have XC:=sA2 fM;have:=ah fE;replace eT:=(XC.mem _ this).2 eT;replace fE:=XC.aE fE;have:=ah eO;replace dX:=(XC.mem _ this).2 dX;replace eO:=XC.aE eO;replace hd:=hd.le QZ XC.le;replace hM:=XC.lt hM;have:=S.size;replace S:=S.av XC;refine ab G G (Rg.de (ab G G (Rg.de (aN Tryz.underlying213 G G G fE G (br (v':=v0) G (Rg.de (a8 G hd.lV G (Rg.de ?_))))))));refine ao (A:=RT.di) (B:=RT.str.sl) Tryz.underlying310 G G xp QZ di0 G G QZ hd bU (λpn2 aj1=>?_);refine Rg.de ?_;refine bD aB G G G G G aj1 bU (λvn2 XD=>?_);replace XD:(RT.str.sl).V fM _ d.1 vn2:=XD;refine Rg.de (bz aB G XD G (Rg.de (cy G G G (Rg.de (ab G G (Rg.de ?_))))));refine aO (g:=22) G (λXE=>?_) (λXE=>?_)
 ·refine ae G G (aN Tryz.underlying213 G G G fE G (br (v':=v0) G (Rg.de (ae G G (a8 G hd.lV G (Rg.de (ae G G ?_)))))));refine ao (A:=RT.di) (B:=RT.str.sl) Tryz.underlying310 G G xp QZ di0 G G QZ hd bU (λpn3 aj2=>?_);refine Rg.de (ae G G ?_);refine bD aB G G G G G aj2 bU (λvn3 XF=>?_);replace XF:(RT.str.sl).V fM _ d.1 vn3:=XF;refine Rg.de (ae G G (ab G G (Rg.de (ae G G ?_))));refine cB aB I9 G G G XF bU q0 (λu2 x hg2 fm=>?_);rw[ar]at hg2;refine Rg.de (ae G G ?_);refine bD az G G G G G fm bU (λvx yV=>?_);obtain rfl:=dS yV;refine Rg.de (ae G G (aN az G G G eO G (br (v':=sv k) G (Rg.de (ae G G (Rg.sY G G G (Rg.de (aU G G G (Rg.de (aG G G (Rg.de ?_)))))))))));refine aG G G (Rg.de (fF (aI ?_)));rw[<-em]at*
  first
  |(have e:decide (x=k)=decide (k∈d.1):=decide_eq_decide.2 (by rw[<-O1 O2,hg2];simp)
    exact fc rfl rfl rfl ⟨by rw[e],S.back⟩)
  |(have e:k∉d.1:=λh=>by have:=(CW O2).1 h;have:=(al.1 this).1;omega
    exact fc rfl rfl rfl ⟨by rw[decide_eq_false e],S.back⟩)
 ·refine aj G G G G (Rg.de (aj G G G G (Rg.de (aj G G G G (Rg.de (aj G G G G (Rg.de (aj G G G G (Rg.de (aj G G G G (Rg.de ?_)))))))))));refine aj G G G G (Rg.de (aj G G G G (Rg.de (aj G G G G (Rg.de (aA G G G (Rg.de (aG G G (Rg.de (aG G G (Rg.de ?_)))))))))));refine fF (aI ?_);rw[<-em]at*
  first
  |(have e:decide (x=k)=decide (k∈d.1):=decide_eq_decide.2 (by rw[<-O1 O2,hg2];simp)
    exact fc rfl rfl rfl ⟨by rw[e],S.back⟩)
  |(have e:k∉d.1:=λh=>by have:=(CW O2).1 h;have:=(al.1 this).1;omega
    exact fc rfl rfl rfl ⟨by rw[decide_eq_false e],S.back⟩)
theorem find_spec {M:aL} {d:Di} {v0:Value} {k:List UInt8} (w0:World) (hM:Lt M w0) (hd:cM RT.di M w0 v0 d) (O2:GY d.1) (hl:d.1.length=d.2.length):
  Spec Tryz.prog 218 #[v0,sv k] w0 (λv w=>Step M w0 M w aD/\((∃(j:Nat) (p:Value) (t:Li),v= .tuple #[p,.bool true]/\d.1[j]? =some k/\d.2[j]? =some t/\cM RT.li M w p t)\/(v= .tuple #[.pointer none,.bool false]/\k∉d.1))):=by
 refine a7 (args:=[_,_]) (fn:=Tryz.f218) Tryz.func218 G (n:=25) Tryz.ntmps218 ?_;have S:Step M w0 M w0 aD:=aW;refine T.aP (aG G G (Rg.aZ G G (T.aP (ab G G (ab G G ?_)))));refine aQ G G ajV (Hq _ hM hd O2) (λr1 w1 hc=>?_);obtain⟨rfl,s1⟩:=hc;replace hd:=hd.le QZ s1.le;replace hM:=s1.lt hM;have:=S.size;replace S:=S.av s1;refine ab G G (cD G G G (cD G G G (aG G G (Rg.aZ G G (aK (T.aP (ab G G (ib G G (br (v':= .bool (decide (k∉d.1))) (by simp) ?_)))))))));refine ad ?_;refine bF G (λc2=>?_) (λc2=>?_)
 ·refine T.aP (Rg.aZ G G (T.aP (ab G G (aG G G (Rg.aZ G G (aI ?_))))));exact fc G G G ⟨S,.inr ⟨G,c2⟩⟩
 ·refine aR (T.aP (ab G G (a8 G hd.lV G ?_)));refine ao (A:=RT.di) (B:=((RT.li).ptr).sl) Tryz.underlying310 G G KA QZ di1 G G QZ hd bU (λpt hpt=>?_);refine bD ff G G G G G hpt bU (λvt hvt=>?_);replace hvt:(((RT.li).ptr).sl).V M _ d.2 vt:=hvt;refine ab G G ?_;have hk:=(CW O2).1 (cG.1 c2);have Ap:=(al.1 hk).1;refine cB ff sa G G G hvt bU q0 (λu5 t J2 lB=>?_);rw[ar]at J2;refine bD dJ G G G G G lB bU (λvp hvp=>?_);have aj4:=IZ.1 hvp;refine aG G G (Rg.aZ G G (aI ?_));exact fc G G G ⟨S,.inl ⟨_,_,t,G,hk,J2,aj4⟩⟩
end Go.K
namespace Go.K
open Go.Proofs
set_option maxRecDepth 10000
def SE (ns:List (List UInt8)) (ls:List (List Po)) (k:List UInt8):List Po:=match (ns.zip ls).find? (λp=>decide (p.1=k))with|some p=>p.2|none=>[]
theorem O3 {ns:List (List UInt8)} (hn:ns.Nodup) {ls:List (List Po)} {k:List UInt8} {j:Nat} {l:List Po} (h:ns[j]? =some k) (hl:ls[j]? =some l):SE ns ls k=l:=by
 have:∀{ns:List (List UInt8)} {ls:List (List Po)} {j:Nat},ns.Nodup->ns[j]? =some k->ls[j]? =some l->(ns.zip ls).find? (λp=>decide (p.1=k))=some (k,l):=by
  intro ns
  induction ns with
  |nil=>intro ls j _ h;simp at h
  |cons x ns ih=>
   intro ls j hn h hl
   cases ls with
   |nil=>simp at hl
   |cons y ls=>
    cases j with
    |zero=>simp at h hl;subst h;subst hl;simp
    |succ j=>
     have Lr:=List.nodup_cons.1 hn;have hk:k∈ns:=au a84;have hx:x≠k:=λe=>Lr.1 (by rw[e];exact hk)
     rw[List.zip_cons_cons,List.find?_cons_of_neg ae0];exact ih Lr.2 a84 (by simpa using hl)
 unfold SE;rw[this hn h hl]
theorem E9 {ns:List (List UInt8)} {ls:List (List Po)} {k:List UInt8} (h:k∉ns):SE ns ls k=[]:=by
 unfold SE;rw[List.find?_eq_none.2 λp hp=>by have:=List.of_mem_zip hp;simp;intro e;exact h (e▸this.1)]
theorem O4 {L:List En} (k:List UInt8):SE (keysOf L) ((keysOf L).map (pk L)) k=pk L k:=by
 by_cases h:k∈keysOf L
 ·obtain⟨j,hj⟩:=bK.1 h;exact O3 (oJ L).nodup hj (by rw[ei,hj];rfl)
 ·rw[E9 h];exact(IY 0 (λh'=>h (mc.2 h'))).symm
def wW (d:Di) (k:List UInt8) (M:aL) (v:Value) (w:World):Prop:=(∃(j:Nat) (t:Li),d.1[j]? =some k/\d.2[j]? =some t/\cM RT.li M w v t)\/(v= .pointer none/\k∉d.1)
theorem wW.step {d:Di} {k:List UInt8} {M M':aL} {v:Value} {w w':World} (h:wW d k M v w) (s:Step M w M' w' aD):wW d k M' v w':=h.imp (fun⟨j,t,h1,h2,h3⟩=>⟨j,t,h1,h2,h3.le QZ s.le⟩) id
theorem KE {M:aL} {t:Fd} (w0:World) (hM:Lt M w0) (h1:t.1.length<=140737488355328) (h2:t.2.length<=140737488355328):
  Spec Tryz.prog 95 #[kv t] w0 (λv w=>v= .string ⟨(cZ t).toArray⟩/\Step M w0 M w aD):=by
 refine a7 (args:=[_]) (fn:=Tryz.f95) Tryz.func95 G (n:=9) Tryz.ntmps95 ?_;have S:Step M w0 M w0 aD:=aW;refine T.aP ?_;refine ej (A:=RT.fd) G G hM (CF q0 q0) G (λu0 w1 du s0 _=>?_);replace hM:=s0.lt hM;have:=S.size;replace S:=S.av s0;refine Rg.aZ G G (T.aP ?_);refine ao (M:=M) (A:=RT.fd) (B:=RT.str) bI G G I9 QZ (DZ) G G QZ U3 (by repeat (first|exact bN _ _|refine bg (bO U3) ?_)) (λyX kb=>?_);refine bD az G G G G G kb bU (λv1 j9=>?_);obtain rfl:=dS j9;refine Rg.cat (p:=t.1) (q:=[0]) rfl rfl rfl a11 ?_;refine ao (M:=M) (A:=RT.fd) (B:=RT.str) bI G G I9 QZ (QO) G G QZ U3 (by repeat (first|exact bN _ _|refine bg (bO U3) ?_)) (λRI j6=>?_);refine bD az G G G G G j6 bU (λv4 pK=>?_);obtain rfl:=dS pK;refine Rg.cat (p:=t.1++[0]) (q:=t.2) rfl rfl rfl a11 (Rg.aZ rfl rfl (aI ?_));exact aF G G ⟨G,S⟩
namespace TKCursor
theorem ko:TI Tryz.prog 117 (.slice none 0 0) 1 24:=by unfold TI;kernel_rfl
theorem XG:TI Tryz.prog 323 (.agg #[(.pointer none),(.int .i64 0),(.slice none 0 0),(.int .i64 0),(.int .i64 0)]) 5 56:=by unfold TI;kernel_rfl
theorem XH:placesOf Tryz.prog 323=[(0,1),(1,1),(2,1),(3,1),(4,1)].map some:=by kernel_rfl
theorem Kv:Enters Tryz.prog 100:=enters Tryz.func100 rfl QZ
theorem acw:Enters Tryz.prog 220:=enters Tryz.func220 rfl QZ
end TKCursor
open TKCursor
set_option maxRecDepth 10000
theorem mS {l:List Po} {j:Nat} {p:Po} (h:l[j]? =some p):(kX l (j:Int))[0]? =some p:=by
 unfold kX;rw[if_neg q0,ar,dG,if_pos q0,gY];simpa using h
theorem Hr {l:List Po} {i:Int} (h:(l.length:Int)<=i):kX l i=[]:=by
 unfold kX;rw[if_neg q0,fG q0,List.take_nil]
theorem KF {M:aL} {w0:World} {q:Addr} {l:List Po} (hv:cM RT.li M w0 (.pointer (some q)) (kM l)):
  Spec Tryz.prog 219 #[.pointer (some q)] w0 (λv' w'=>∃bc,v'= .pointer (some ⟨bc,0,none⟩)/\w0.heap.size<=bc/\Step M w0 (ins M bc) w' aD/\Cu 323 l (-1) (ins M bc) w' bc):=by
 refine a7 (args:=[_]) (fn:=Tryz.f219) Tryz.func219 G (n:=12) Tryz.ntmps219 (T.aP (Rg.aZ G G (aK (T.aP (ab G G (Rg.Mf (v:= .pointer (some q)) dJ G ⟨_,G⟩ G G (br (v':= .bool (decide False)) G (ad ?_))))))));refine T.LJ G ((λh=>h)) (aR (T.aP (ab rfl rfl (dN (places:=[(0,1),(1,1),(2,1),(3,1),(4,1)]) bY XG XH rfl ⟨_,_,rfl,rfl,_,_,rfl,rfl,_,_,rfl,rfl,rfl⟩ (out:=[_,_,.slice none 0 0,_,.int .i64 0]) ⟨0,[_],rfl,rfl,by simp[Value.cells],1,[_],rfl,rfl,by simp[Value.cells],3,[_],rfl,rfl,by simp[Value.cells],rfl⟩ ?_))));refine np M G G (λbc w1 h1 Rj hS s1=>?_);refine Rg.aZ G G (aI ?_);exact aF G G ⟨bc,G,h1,s1,.pointer (some q),.slice none 0 0,-1,0,.inl G,hS,hv.le QZ s1.le,iQ,by omega,by omega,λ_=>rfl,λh=>by omega⟩
theorem Fa {M:aL} {w0:World} {bc:Nat} {l:List Po} {i:Int} (h:Cu 323 l i M w0 bc) (hm:eD (-1) l=true):
  Spec Tryz.prog 220 #[.pointer (some ⟨bc,0,none⟩)] w0 (λv' w'=>v'= .bool (decide (0<=i/\i<l.length))/\w0=w'):=by
 obtain⟨p,u,k,DN,xB,hb,hp,hu,hi,hk,TS,pJ⟩:=id h;have kZ:=DM hm (i:=i);refine a7 (args:=[_]) (fn:=Tryz.f220) Tryz.func220 G (n:=15) Tryz.ntmps220 (T.aP (Rg.aZ G G (T.aP (ab G G (a8 G ⟨_,G⟩ G (aY bY G G I3 QZ G G (aN ak G G G U3 G (ek G G G ?_))))))));refine ab G G ?_;refine aO (g:=8) G (λk3=>?_) (λk3=>?_)
 ·refine ae G G (ab G G (ae G G (a8 G ⟨_,G⟩ G (ae G G (aY bY G G I3 QZ G G (ae G G (aN ak G G G U3 G (ae G G (cy G G G (aU G G G (aG G G ?_)))))))))));refine ad (aI ?_)
  first
  |exact a71
  |exact a69
 ·refine aj G G G G (aj G G G G (aj G G G G (aj G G G G (aj G G G G (aA G G G (Rg.aZ G G (aI ?_)))))))
  first
  |exact a71
  |exact a69
theorem Fb {M:aL} {w0:World} {v:Value} {b:List Int} (hM:Lt M w0) (hv:((RT.int .i64).sl).V M w0 b v) (sM:b.length<=1099511627776):
  Spec Tryz.prog 100 #[v] w0 (λv' w'=>((RT.int .i64).sl).V M w' b v'∧Step M w0 M w' aD):=by
 obtain⟨a,cap,mv,hc,hl,hs⟩:=iW.1 hv;refine a7 (args:=[_]) (fn:=Tryz.f100) Tryz.func100 G (n:=8) Tryz.ntmps100 (T.aP (Rg.aZ G G (aK (T.aP (ab G G (br (v':= .slice a b.length cap) mv (Rg.tq ax G G G (ad ?_))))))));refine bF G (λc1=>?_) (λc1=>?_)
 ·refine T.aP (Rg.aZ G G (aI ?_))
  have hb:b=[]:=by
   rcases hs with h|⟨_,_,h,_⟩
   ·exact h
   ·rw[c1]at h;cases h
  exact aF rfl rfl ⟨by rw[hb];exact iQ,aW⟩
 ·refine aR (T.aP ?_);refine Rg.ZY ax I3 M G (λa0 w1 s1=>?_);refine ab G G ?_;refine Rg.nz (A:=RT.int .i64) (hn:=by decide) (M:=M) ax I3 G G G G hv s1.le (s1.lt hM) q0 (λu2 w2 fm s2=>?_);refine Rg.aZ G G (aI ?_);exact aF G G ⟨fm,s1.av s2⟩
theorem CX {M:aL} {w0:World} {bc:Nat} {l:List Po} {i:Int} (h:Cu 323 l i M w0 bc) (hm:eD (-1) l=true) (rM:∀p∈l,p.2.length<=1099511627776) (hM:Lt M w0):
  Spec Tryz.prog 167 #[.pointer (some ⟨bc,0,none⟩)] w0 (λv' w'=>((RT.int .i64).sl).V M w' (fX l i) v'∧Step M w0 M w' aD):=by
 obtain⟨p,u,k,DN,xB,hb,hp,hu,hi,hk,TS,pJ⟩:=id h;refine a7 (args:=[_]) (fn:=Tryz.f167) Tryz.func167 G (n:=14) Tryz.ntmps167 (T.aP (Rg.aZ G G (aK (T.aP (ab G G ?_)))));refine aQ G G acw (Fa h hm) (λr wc h=>?_);obtain⟨rfl,rfl⟩:=h;refine ib G G (br (v':= .bool (decide (¬(0<=i/\i<l.length)))) (by rw[decide_not]) (ad ?_));refine bF G (λc1=>?_) (λc1=>?_)
 ·have jz:fX l i=[]:=by
   rcases eU l i with⟨_,_,h0⟩|⟨j,d,ps,rfl,hx,_⟩|⟨_,_,h0⟩
   ·exact h0
   ·have:=(al.1 hx).1;omega
   ·exact h0
  refine T.aP (Rg.aZ G G (aI ?_));exact aF rfl rfl ⟨by rw[jz];exact iQ,aW⟩
 ·obtain⟨j,d,ps,rfl,hx,hd,xG⟩:∃j:Nat,∃d ps,i=j/\l[j]? =some (d,ps)/\eL l i=d/\fX l i=ps:=by
   rcases eU l i with⟨h0,_⟩|h0|⟨h0,_⟩
   ·omega
   ·exact h0
   ·omega
  have hh:=mS hx;have hhl:=(al.1 hh).1;refine aR (T.aP (ab G G (a8 G ⟨_,G⟩ G (aY bY G G ko QZ G G (aN bG G G G U3 G ?_)))));refine cB bG iL G G G (hu) bU a48 (λV9 XI O5 acx=>?_);obtain rfl:(d,ps)=XI:=cz (aJ (O5.symm.trans (by simpa using hh)));refine ao (M:=M) (A:=RT.po) (B:=(RT.int .i64).sl) ch G G ph QZ (VC) G G QZ U3 (by repeat (first|exact bN _ _|refine bg (bO U3) ?_)) (λXf OH=>?_);refine bD (M:=M) ax G G G G G U3 (by repeat (first|exact bN _ _|refine bg (bO U3) ?_)) (λSk wU=>?_);replace wU:((RT.int .i64).sl).V M _ ps Sk:=wU;refine aQ G G Kv (Fb (M:=M) hM wU (rM _ (au hx))) (λr wr h=>?_);obtain⟨hr,sr⟩:=h;refine Rg.aZ G G (aI ?_);exact aF rfl rfl ⟨by rw[xG];exact hr,sr⟩
theorem Fc {M:aL} {w0:World} {bc:Nat} {l:List Po} {i:Int} (h:Cu 323 l i M w0 bc) (hm:eD (-1) l=true):
  Spec Tryz.prog 165 #[.pointer (some ⟨bc,0,none⟩)] w0 (λv' w'=>v'= .int .i64 (fX l i).length/\w0=w'):=by
 obtain⟨p,u,k,DN,xB,hb,hp,hu,hi,hk,TS,pJ⟩:=id h;refine a7 (args:=[_]) (fn:=Tryz.f165) Tryz.func165 G (n:=14) Tryz.ntmps165 (T.aP (Rg.aZ G G (aK (T.aP (ab G G ?_)))));refine aQ G G acw (Fa h hm) (λr wc h=>?_);obtain⟨rfl,rfl⟩:=h;refine ib G G (br (v':= .bool (decide (¬(0<=i/\i<l.length)))) (by rw[decide_not]) (ad ?_));refine bF G (λc1=>?_) (λc1=>?_)
 ·have jz:fX l i=[]:=by
   rcases eU l i with⟨_,_,h0⟩|⟨j,d,ps,rfl,hx,_⟩|⟨_,_,h0⟩
   ·exact h0
   ·have:=(al.1 hx).1;omega
   ·exact h0
  refine T.aP (Rg.aZ G G (aI ?_));exact aF rfl rfl ⟨by rw[jz];rfl,rfl⟩
 ·obtain⟨j,d,ps,rfl,hx,hd,xG⟩:∃j:Nat,∃d ps,i=j/\l[j]? =some (d,ps)/\eL l i=d/\fX l i=ps:=by
   rcases eU l i with⟨h0,_⟩|h0|⟨h0,_⟩
   ·omega
   ·exact h0
   ·omega
  have hh:=mS hx;have hhl:=(al.1 hh).1;refine aR (T.aP (ab G G (a8 G ⟨_,G⟩ G (aY bY G G ko QZ G G (aN bG G G G U3 G ?_)))));refine cB bG iL G G G (hu) bU a48 (λV9 XI O5 acx=>?_);obtain rfl:(d,ps)=XI:=cz (aJ (O5.symm.trans (by simpa using hh)));refine ao (M:=M) (A:=RT.po) (B:=(RT.int .i64).sl) ch G G ph QZ (VC) G G QZ U3 (by repeat (first|exact bN _ _|refine bg (bO U3) ?_)) (λXf OH=>?_);refine bD (M:=M) ax G G G G G U3 (by repeat (first|exact bN _ _|refine bg (bO U3) ?_)) (λSk wU=>?_);replace wU:((RT.int .i64).sl).V M _ ps Sk:=wU;refine bz ax G wU G (Rg.aZ G G (aI ?_));exact aF rfl rfl ⟨by rw[xG],rfl⟩
def mi (l:List Po) (i:Int):Int:=if i<l.length then i+1 else i
theorem O6 {l:List Po} (hm:eD (-1) l=true) {i:Int} (hi: -1<=i/\i<=l.length):rW l i (min (eL l i+1) 2147483648)=mi l i:=by
 unfold rW mi;rcases eU l i with⟨h0,h,_⟩|⟨j,d,ps,rfl,hx,h,_⟩|⟨h0,h,_⟩
 ·rw[h,if_neg q0,if_pos q0];rw[idx_eq (i:=0) (λj hj=>absurd hj (eC _)) (λp hp=>by have:=lp hm (i:=0) (d:=p.1) (ps:=p.2) hp;omega) (bp _)];omega
 ·have hr:=lp hm hx;have hj:=(al.1 hx).1;rw[h,if_neg q0,if_pos q0];rw[idx_eq (i:=j+1) (λt ht p hp=>?_) (λp hp=>?_) q0]
  ·omega
  ·rcases cI t j with h1|h1
   ·have:=mL hm hp hx h1;simp only at this;omega
   ·rw[show t=j from by omega,hx]at hp;cases hp;simp only;omega
  ·have h1:=mL hm hx hp q0;have h2:=lp hm (i:=j+1) (d:=p.1) (ps:=p.2) hp;simp only at h1;omega
 ·rw[h,if_pos q0,if_neg q0]
end Go.K
namespace Go.K
open Go.Proofs
namespace TKIdx
theorem aj6:Enters Tryz.prog 225:=enters Tryz.func225 rfl QZ
end TKIdx
open TKIdx
set_option maxRecDepth 10000
theorem KG {M:aL} {w0:World} {x:Value} {d to:Int} {bt:Nat} (hM:Lt M w0) (hb:w0.heap[bt]? =some (.cells #[.int .i64 to] 3 (0,0))):
  Spec Tryz.prog 225 #[.agg #[.int .i64 d,x],.pointer (some ⟨bt,0,none⟩)] w0 (λv' w'=>v'= .bool (decide (to<=d))/\Step M w0 M w' aD):=by
 refine a7 (args:=[_,_]) (fn:=Tryz.f225) Tryz.func225 G (n:=8) Tryz.ntmps225 (T.aP ?_);refine np M G G (λbx w1 h1 Rj hS s1=>?_);change w1.heap[bx]? =some (.cells #[.int .i64 d,x] _ _)at hS;have vB:=s1.aE hb;refine Rg.aZ G G (T.aP (aY ch G G I3 QZ G G (aN ak G G G U3 G (aN ak G G G U3 G (ek G G G (Rg.aZ G G (aI ?_)))))));exact aF G G ⟨G,s1.back⟩
set_option maxHeartbeats 2000000 in
theorem tY {M:aL} {w0:World} {v:Value} {lf:List Po} {to:Int} {bt:Nat} (hM:Lt M w0) (hv:((RT.po).sl).V M w0 lf v) (hb:w0.heap[bt]? =some (.cells #[.int .i64 to] 3 (0,0))):
  Spec Tryz.prog 224 #[v,.func (.func 225) #[] #[.pointer (some ⟨bt,0,none⟩)]] w0 (λv' w'=>v'= .int .i64 (if idx lf to<lf.length then(idx lf to:Int)else-1)/\Step M w0 M w' aD):=by
 have hlen:=cQ hv;refine a7 (args:=[_,_]) (fn:=Tryz.f224) Tryz.func224 G (n:=19) Tryz.ntmps224 (T.aP (Rg.aZ G G (aK (T.aP (ab G G (bz bG G hv G (ab G G (ad ?_))))))));refine aX ?_;refine cY (σ:=Nat) (λs=>[(0,v),(1,.func (.func 225) #[] #[.pointer (some ⟨bt,0,none⟩)]),(7,.int .i64 lf.length),(8,.int .i64 s)]) (λs w=>s<=lf.length/\Step M w0 M w aD/\∀j,j<s->∀p,lf[j]? =some p->p.1<to) (λs=>lf.length-s) 0 a38 ?_ ?_
 ·exact⟨bp _,aW,λj hj=>absurd hj (eC _)⟩
 ·rintro k w1 ⟨hk,S,eQ⟩;refine T.aP (cy G G G (ad (aK ?_)));refine bF G (λc2=>?_) (λc2=>?_)
  ·refine aR (aK (aX (T.aP (ab G G (Rg.aZ G G (T.aP (ab G G (ab G G ?_))))))));refine ab G G ?_;obtain⟨⟨d,ps⟩,hx⟩:∃x,(lf)[k]? =some x:=⟨_,an q0⟩;refine cB bG iL G G G (hv.le S.le) bU a48 (λaas aj7 acy aoU=>?_);obtain rfl:(d,ps)=aj7:=cz (aJ (acy.symm.trans ae0));refine bR (M:=M) (A:=RT.po) ch G iL QZ G G G U3 (by repeat (first|exact bN _ _|refine bg (bO U3) ?_)) (λatl acz=>?_);obtain⟨x4,rfl,_,_⟩:=VE acz;refine uI (first:=[]) (captured:=[.pointer (some ⟨bt,0,none⟩)]) (xs:=[.tmp 15]) G G G aj6 (KG (M:=M) (d:=d) (x:=x4) (S.lt hM) (S.aE hb)) (λr w2 h2=>?_);obtain⟨rfl,s2⟩:=h2;refine ad ?_;refine bF G (λc4=>?_) (λc4=>?_)
   ·refine T.aP (ab G G (Rg.aZ G G (aI ?_)));have he:idx lf to=k:=idx_eq eQ (λp hp=>by rw[hx]at hp;cases hp;exact c4) hk;exact aF rfl rfl ⟨by rw[he,if_pos q0],S.av s2⟩
   ·refine aR (aM (bC G G G q0 (ab G G (ad ?_))));refine⟨G,k+1,a38,?_,?_⟩
    ·refine ⟨by omega,S.av s2,λj hj p hp=> ?_⟩;rcases cI j k with Zi|Zi
     ·exact eQ j Zi p hp
     ·rw[show j=k from by omega,hx]at hp;cases hp;simp only;omega
    ·show _-(k+1)<_-k;omega
  ·refine cN (T.aP (Rg.aZ G G (aI ?_)))
   have he:idx lf to=lf.length:=by
    obtain rfl:k=lf.length:=by omega
    exact idx_eq eQ (λp hp=>by simp at hp) (bu _)
   exact aF rfl rfl ⟨by rw[he,if_neg q0],S⟩
end Go.K
namespace Go.K
open Go.Proofs
namespace TKAdv
theorem ko:TI Tryz.prog 117 (.slice none 0 0) 1 24:=by unfold TI;kernel_rfl
theorem SF:Enters Tryz.prog 166:=enters Tryz.func166 rfl QZ
theorem SG:Enters Tryz.prog 221:=enters Tryz.func221 rfl QZ
theorem aj8:Enters Tryz.prog 222:=enters Tryz.func222 rfl QZ
theorem aj9:Enters Tryz.prog 223:=enters Tryz.func223 rfl QZ
theorem acA:Enters Tryz.prog 224:=enters Tryz.func224 rfl QZ
end TKAdv
open TKAdv
set_option maxRecDepth 10000
set_option maxHeartbeats 2000000 in
theorem oR {M:aL} {w0:World} {bc:Nat} {l:List Po} {i to:Int} (h:Cu 323 l i M w0 bc) (hM:Lt M w0) (hm:eD (-1) l=true) (rM:∀p∈l,p.2.length<=1099511627776) (sM:(ep (-1) l).length<=1099511627776) (LW:l.length<=1099511627776) (ZT: -9223372036854775808<=to/\to<=9223372036854775807):
  Spec Tryz.prog 166 #[.pointer (some ⟨bc,0,none⟩),.int .i64 to] w0 (λv' w'=>v'= .int .i64 (eL l (rW l i to))/\Step M w0 M w' (λb=>b=bc)/\Cu 323 l (rW l i to) M w' bc):=by
 obtain⟨p,u,k,DN,xB,hb,hp,hu,hi,hk,TS,pJ⟩:=id h;have Lo:(kM l).2.1.length=(l.length+7)/8:=by simp[kM,pg]
 have Dk:∀b:Nat,b=bc->M b:=λb hb=>by rw[hb];exact xB
 have hdr:=vq hm i;refine a7 (args:=[_,_]) (fn:=Tryz.f166) Tryz.func166 G (n:=107) Tryz.ntmps166 (T.aP ?_);refine np M G G (λbt w1 ht ht' hT s1=>?_);change w1.heap[bt]? =some (.cells #[.int .i64 to] _ _)at hT;have OR:bt≠bc:=by have:=ah hb;omega
 have vB:=s1.aE hb;generalize AS:ins M bt=M1 at s1;have oN:=s1.lt hM;have Um:=hp.le QZ s1.le;have fR:=hu.le s1.le;have AT:=(s1.mem bc (ah hb)).2 xB;have hcM:∀b:Nat,b=bc->M1 b:=λb h=>by rw[h];exact AT
 refine Rg.aZ G G (aK (aK ?_));apply T.draw (M:=M1) mixed [cp.eq _,cp.eq _,cp.eq _,cp.eq _,cp.eq _,cp.eq _]
 ·rfl
 ·refine aH ?_ ?_
  ·intro wD E sD;refine aN ak G G G (cg sD U3) G ?_;exact a01
  refine aH ?_ ?_
  ·intro wD E sD;refine ab G G ?_;exact a01
  refine aH ?_ ?_
  ·intro wD E sD;refine aw (a8 G ⟨_,G⟩ G ?_);exact a01
  refine aH ?_ ?_
  ·intro wD E sD;refine aw (aY bY G G I3 QZ G G ?_);exact a01
  refine aH ?_ ?_
  ·intro wD E sD;refine aw (aN ak G G G (cg sD U3) G ?_);exact a01
  refine aH ?_ ?_
  ·intro wD E sD;refine aw (aw (fN G G G ?_));exact a01
  exact uL
 ·intro J4 l4;refine aw (aw (aw (aw (aw (aw ?_)))));have Dt:=l4.aE vB;refine bF G (λc1=>?_) (λc1=>?_)
  ·refine T.aP (ab G G (a8 G ⟨_,G⟩ G (aY bY G G I3 QZ G G (aN ak G G G U3 G (Rg.aZ G G (aI ?_))))));have he:rW l i to=i:=by unfold rW;rw[if_pos c1]
   rw[he];have S:=s1.av l4;exact aF G G ⟨G,S.back.ew a18 Dk,h.step S.back (λh=>h)⟩
  ·refine aR (T.aP (ab G G (a8 G ⟨_,G⟩ G (aY bY G G I3 QZ G G (aN ak G G G U3 G (Rg.max2 G G G (Rg.aZ G G (aK (aX ?_)))))))));refine cY (σ:=Nat) (λs=>[(0,.pointer (some ⟨bc,0,none⟩)),(3,.pointer (some ⟨bt,0,none⟩)),(5,.int .i64 s)]) (λs w=>s<=(l.length+7)/8/\cO (-1) (l.take (8*s))<to/\Step M1 w1 M1 w aD) (λs=>(l.length+7)/8-s) (max k 0).toNat (.cons rfl (.cons rfl (.cons (by rw[show(((max k 0).toNat:Nat):Int)=max k 0 from by omega];rfl) .nil))) ?_ ?_
   ·exact⟨by omega,JS hm hi hk TS pJ q0,l4⟩
   ·rintro n w4 ⟨hn,Y6,S4⟩;have Sn:=S4.aE vB;have Zj:=S4.aE hT;have LD:=Um.le QZ S4.le;refine aK (aK ?_);by_cases SH:(n:Int)<(((l.length+7)/8:Nat):Int)
    ·apply T.draw (M:=M1) mixed [cp.eq _,cp.eq _,cp.eq _,cp.eq _,cp.eq _,cp.eq _,cp.eq _,cp.eq (.bool true),cp.eq _,cp.eq _,cp.eq _,cp.eq _,cp.eq _,cp.eq _,cp.eq _,cp.eq _,cp.eq _]
     ·rfl
     ·refine aH ?_ ?_
      ·intro wD E sD;refine ab G G ?_;exact a01
      refine aH ?_ ?_
      ·intro wD E sD;refine ab G G ?_;exact a01
      refine aH ?_ ?_
      ·intro wD E sD;refine aw (a8 G ⟨_,G⟩ G ?_);exact a01
      refine aH ?_ ?_
      ·intro wD E sD;refine aw (aY bY G G sa QZ G G ?_);exact a01
      refine aH ?_ ?_
      ·intro wD E sD;refine aw (aN dJ G G G (cg sD U3) G ?_);exact a01
      refine aH ?_ ?_
      ·intro wD E sD;refine aw ?_;refine aQ G G SG (mQ (M:=M1) (LD.le QZ sD.le)) (λr wc h=>?_);obtain⟨rfl,rfl⟩:=h;exact ad ⟨G,G,_,G,congrArg (λn:Nat=>Value.int .i64 n) Lo,aW⟩
      refine aH ?_ ?_
      ·intro wD E sD;refine aw (aw (cy G G G ?_));exact a01
      refine aH ?_ ?_
      ·intro wD E sD;refine aw (aw (ab G G ?_));refine ad ⟨G,G,_,G,?_,aW⟩;exact congrArg Value.bool (decide_eq_true SH)
      refine aH ?_ ?_
      ·intro wD E sD;refine aw (ae G G (ab G G ?_));exact a01
      refine aH ?_ ?_
      ·intro wD E sD;refine aw (aw (ae G G (a8 G ⟨_,G⟩ G ?_)));exact a01
      refine aH ?_ ?_
      ·intro wD E sD;refine aw (aw (ae G G (aY bY G G sa QZ G G ?_)));exact a01
      refine aH ?_ ?_
      ·intro wD E sD;refine aw (aw (ae G G (aN dJ G G G (cg sD U3) G ?_)));exact a01
      refine aH ?_ ?_
      ·intro wD E sD;refine aw (ae G G (ab G G ?_));exact a01
      refine aH ?_ ?_
      ·intro wD E sD;refine aw (aw (aw (aw (ae G G ?_))));refine aQ G G aj8 (Kx (k:=n) (LD.le QZ sD.le)) (λr wc h=>?_);obtain⟨rfl,rfl⟩:=h;exact a01
      refine aH ?_ ?_
      ·intro wD E sD;refine aw (ae G G (aN ak G G G (cg sD U3) G ?_));exact a01
      refine aH ?_ ?_
      ·intro wD E sD;refine aw (aw (aw (ae G G (cy G G G ?_))));exact a01
      refine aH ?_ ?_
      ·intro wD E sD;refine aw (aw (aU G G G ?_));exact a01
      exact uL
     ·intro wD4 qE;refine aw (aw (aw (aw (aw (aw (aw (aw (aw (aw (aw (aw ?_)))))))))));refine aw (aw (aw (aw (aw ?_))));replace S4:=S4.av qE;replace Sn:=qE.aE Sn;replace Zj:=qE.aE Zj;replace LD:=LD.le QZ qE.le;have Uu:=S4.lt oN;refine bF G (λc4=>?_) (λc4=>?_)
      ·refine aR (aX (aM (ab G G (bC G G G q0 (Rg.aZ G G ?_)))));refine⟨G,n+1,a00,?_,?_⟩
       ·have Dm:=DL (g:=l) (k:=n) q0;refine⟨by omega,?_,S4⟩;rw[show 8*(n+1)=8*n+8 from by omega,<-Dm];exact c4
       ·show _-(n+1)<_-n;omega
      ·refine cN (aK (T.aP (ab G G (ab G G (a8 G ⟨_,G⟩ G (aY bY G G sa QZ G G (aN dJ G G G U3 G ?_)))))));refine aQ G G SG (mQ (M:=M1) LD) (λr wc h=>?_);obtain⟨rfl,rfl⟩:=h;refine br (v':= .int .i64 (((l.length+7)/8:Nat):Int)) (congrArg (λn:Nat=>Value.int .i64 n) Lo) (fi G G G (ad ?_));refine bF G (λc6=>?_) (λc6=>?_)
       ·exfalso;omega
       ·have hnk:n<(l.length+7)/8:=by omega
        have Z0:to<=cO (-1) (l.take (8*n+8)):=by
         first
         |(exfalso;omega)
         |(have:=DL (g:=l) (k:=n) q0;omega)
        refine aR (aK (T.aP (ab G G (ab G G (a8 G ⟨_,G⟩ G (aY bY G G I3 QZ G G (aN ak G G G U3 G (eV G G G (ad ?_)))))))));refine bF G (λc9=>?_) (λc9=>?_)
        ·refine T.aP (ab G G (ab G G (ab G G (ab G G (a8 G ⟨_,G⟩ G (aY bY G G sa QZ G G (aN dJ G G G U3 G (ab G G ?_))))))));refine aQ G G aj9 (Hb (M:=M1) (k:=n) Uu LD hm rM sM) (λIH w10 h=>?_);obtain⟨uG,Ku⟩:=h;rw[if_pos (by unfold Mi;simp;omega),ar]at Ku;have akb:=uG.aE Sn;refine a8 G ⟨_,G⟩ G (aY bY G G I3 QZ G G ?_);refine cn (M:=M1) I3 G G akb G G AT (λw11 acB zw=>?_);change w11.heap[bc]? =some (.cells #[p,.int .i64 n,u,.int .i64 (eL l i),.int .i64 DN] 323 (0,0))at acB;refine a8 G ⟨_,G⟩ G (aY bY G G ko QZ G G ?_);refine cn (M:=M1) ko G G acB G (jc Ku G G) AT (λLw SI lu=>?_);change Lw.heap[bc]? =some (.cells #[p,.int .i64 n,IH,.int .i64 (eL l i),.int .i64 DN] 323 (0,0))at SI;refine ad (aM (ab G G (a8 G ⟨_,G⟩ G (aY bY G G I3 QZ G G (aN ak G G G U3 G (Rg.xY G G G (a8 G ⟨_,G⟩ G (aY bY G G I3 QZ G G ?_))))))));refine cn (M:=M1) I3 G G SI G G AT (λW0 XJ tS=>?_);change W0.heap[bc]? =some (.cells #[p,.int .i64 n,IH,.int .i64 (eL l i),.int .i64 (IntKind.i64.wrap (DN+1))] 323 (0,0))at XJ;obtain⟨lf,uX,cX,s,wX,hwX,hbX,hlV,VD,TE,mW,hs3,hs4,hpX,hTX,SX⟩:∃lf uX cX s wX,wX=W0/\wX.heap[bc]? =some (.cells #[p,.int .i64 n,uX,.int .i64 (eL l i),.int .i64 cX] 323 (0,0))/\((RT.po).sl).V M1 wX lf uX/\lf=(l.drop s).take (8*n+8-s)/\8*n<=s/\s<8*n+8/\s<l.length/\cO (-1) (l.take s)<to/\cM RT.li M1 wX p (kM l)/\wX.heap[bt]? =some (.cells #[.int .i64 to] 3 (0,0))/\Step M1 w1 M1 wX (λb=>b=bc):=⟨_,IH,_,8*n,W0,rfl,XJ,((Ku.le zw.le).le lu.le).le tS.le,by rw[show 8*n+8-8*n=8 from by omega],by omega,by omega,by omega,Y6,(((LD.le QZ uG.le).le QZ zw.le).le QZ lu.le).le QZ tS.le,tS.bW (lu.bW (zw.bW (uG.aE Zj) OR) OR) OR,((((S4.ew a18 hcM).av uG).trans zw (λ_ _ h=>h)).trans lu (λ_ _ h=>h)).trans tS (λ_ _ h=>h)⟩
         subst hwX;clear XJ;refine ad (aK ?_);obtain⟨ZW,QK,ha3,ha4,ha5⟩:=Bh hm TE mW hs3 hs4 Z0 VD;have hMX:=SX.lt oN;obtain⟨⟨d,ps⟩,hx⟩:∃x,l[idx l to]? =some x:=⟨_,an ha3⟩;have hh:=mS hx;have hhl:=(al.1 hh).1;apply T.qZ (M:=M1) mixed [] [cp.eq _,cp.eq _,cp.eq _,cp.eq _,cp.eq uX,cp.eq _,cp.eq _,cp.eq _,cp.eq uX,cp.eq _,cp.eq _,cp.V ((RT.po).sl) (kX l (idx l to:Nat))] 12
         ·rfl
         ·rfl
         ·rfl
         ·rfl
         ·rfl
         ·exact a89
         ·exact qH
         ·refine ay ?_ ?_
          ·intro wD E sD;refine ab G G ?_;exact a01
          refine ay ?_ ?_
          ·intro wD E sD;refine ab G G ?_;exact a01
          refine ay ?_ ?_
          ·intro wD E sD;refine aw (a8 G ⟨_,G⟩ G ?_);exact a01
          refine ay ?_ ?_
          ·intro wD E sD;refine aw (aY bY G G ko QZ G G ?_);exact a01
          refine ay ?_ ?_
          ·intro wD E sD;refine aw (aN bG G G G (cg sD U3) G ?_);exact a01
          refine ay ?_ ?_
          ·intro wD E sD;refine ab G G ?_;exact a01
          refine ay ?_ ?_
          ·intro wD E sD;refine aw (a8 G ⟨_,G⟩ G ?_);exact a01
          refine ay ?_ ?_
          ·intro wD E sD;refine aw (aY bY G G ko QZ G G ?_);exact a01
          refine ay ?_ ?_
          ·intro wD E sD;refine aw (aN bG G G G (cg sD U3) G ?_);exact a01
          refine ay ?_ ?_
          ·intro wD E sD;refine jj (xs:=[]) (ys:=[.tmp 3]) G G G ?_;exact a01
          refine ay ?_ ?_
          ·intro wD E sD;refine aw (aw ?_);refine aQ G G acA (tY (M:=M1) (sD.lt hMX) (hlV.le sD.le) (sD.aE hTX)) (λr wi h=>?_);obtain⟨rfl,s⟩:=h;refine br (v':= .int .i64 ((idx lf to:Nat):Int)) (by rw[if_pos QK]) ?_;exact ad ⟨G,G,_,G,G,s⟩
          refine ay ?_ ?_
          ·intro wD E sD;refine aw (aw ?_);refine Rg.od (A:=RT.po) (hn:=by decide) bG iL G G G (hlV.le sD.le) q0 (λu hu=>?_);rw[ar,ha5]at hu;exact ad ⟨G,G,_,G,hu,aW⟩
          exact j0
         ·intro CV kq;refine aw (aw (aw (aw (aw (aw (aw (aw (aw (aw (aw ?_))))))))));intro oS CY;have XK:=kq.aE hbX;have k7:((RT.po).sl).V M1 CV (kX l (idx l to:Nat)) oS:=CY;have S14:=SX.av kq;refine a8 G ⟨_,G⟩ G (aY bY G G ko QZ G G ?_);refine cn (M:=M1) ko G G XK G (jc k7 G G) AT (λGL O7 oF=>?_);change GL.heap[bc]? =some (.cells #[p,.int .i64 n,oS,.int .i64 (eL l i),.int .i64 cX] 323 (0,0))at O7;replace k7:=k7.le oF.le;refine ad (T.aP (ab G G (ab G G (a8 G ⟨_,G⟩ G (aY bY G G ko QZ G G (aN bG G G G U3 G ?_))))));refine cB bG iL G G G (k7) bU a48 (λacD O8 Hs XL=>?_);obtain rfl:(d,ps)=O8:=cz (aJ (Hs.symm.trans (by simpa using hh)));refine ao (M:=M1) (A:=RT.po) (B:=RT.int .i64) ch G G I3 QZ (QM) G G QZ U3 (by repeat (first|exact bN _ _|refine bg (bO U3) ?_)) (λT5 Nl=>?_);refine bT (M:=M1) ak G G U3 (by repeat (first|exact bN _ _|refine bg (bO U3) ?_)) (λzC=>?_);refine br (v':= .int .i64 (d)) G ?_;replace zC: -9223372036854775808<=(d:Int)/\d<=9223372036854775807:=zC;refine a8 G ⟨_,G⟩ G (aY bY G G I3 QZ G G ?_);refine cn (M:=M1) I3 G G O7 G G AT (λUt O9 Hj=>?_);change Ut.heap[bc]? =some (.cells #[p,.int .i64 n,oS,.int .i64 d,.int .i64 cX] 323 (0,0))at O9;replace k7:=k7.le Hj.le;refine ad (T.aP (ab G G (a8 G ⟨_,G⟩ G (aY bY G G I3 QZ G G (aN ak G G G U3 G (Rg.aZ G G (aI ?_)))))))
          have he:rW l i to=(idx l to:Int):=by unfold rW;rw[if_neg c1]
          rw[he];have S7:=((s1.ew a18 Dk).trans ((S14.trans oF (λ_ _ h=>h)).trans Hj (λ_ _ h=>h)) (λ_ _ h=>h));exact aF rfl rfl ⟨by rw[jn hx];rfl,S7.back,p,oS,n,cX,xB,by rw[jn hx];exact O9,(hp.le QZ S7.back.le),k7.le (nY hM S7),by omega,by omega,λh=>by omega,λ_ h=>by omega⟩
        ·have ato:=(kf l (-1) hm QZ (8*n+8)).2
         obtain⟨Vk,A5⟩:0<=i/\i<l.length:=by
          rcases eU l i with⟨h0,_⟩|⟨j,d,ps,rfl,hx,_⟩|⟨h0,h1,_⟩
          ·have:=TS h0;omega
          ·have:=(al.1 hx).1;omega
          ·omega
         have DD:=pJ Vk A5;obtain⟨j,jl⟩:∃j:Nat,i=j:=⟨i.toNat,by omega⟩;obtain⟨⟨dj,pj⟩,Fe⟩:∃x,l[j]? =some x:=⟨_,an q0⟩;have hdj:=jn Fe;rw[<-jl]at hdj;have hlj:=(pT hm Fe).1;obtain rfl:(n:Int)=k:=by omega
         have Ls:=fR.le S4.le;obtain⟨lf,uX,cX,s,wX,hwX,hbX,hlV,VD,TE,mW,hs3,hs4,hpX,hTX,SX⟩:∃lf uX cX s wX,wX=_/\wX.heap[bc]? =some (.cells #[p,.int .i64 n,uX,.int .i64 (eL l i),.int .i64 cX] 323 (0,0))/\((RT.po).sl).V M1 wX lf uX/\lf=(l.drop s).take (8*n+8-s)/\8*n<=s/\s<8*n+8/\s<l.length/\cO (-1) (l.take s)<to/\cM RT.li M1 wX p (kM l)/\wX.heap[bt]? =some (.cells #[.int .i64 to] 3 (0,0))/\Step M1 w1 M1 wX (λb=>b=bc):=⟨_,u,DN,j,_,rfl,Sn,Ls,by rw[jl];unfold kX;rw[if_neg q0,ar,show 8*n+8-j=8-j%8 from by omega],by omega,by omega,by omega,by omega,LD,Zj,S4.ew a18 hcM⟩;subst hwX;clear Sn;refine aR (aK ?_);obtain⟨ZW,QK,ha3,ha4,ha5⟩:=Bh hm TE mW hs3 hs4 Z0 VD;have hMX:=SX.lt oN;obtain⟨⟨d,ps⟩,hx⟩:∃x,l[idx l to]? =some x:=⟨_,an ha3⟩;have hh:=mS hx;have hhl:=(al.1 hh).1;apply T.qZ (M:=M1) mixed [] [cp.eq _,cp.eq _,cp.eq _,cp.eq _,cp.eq uX,cp.eq _,cp.eq _,cp.eq _,cp.eq uX,cp.eq _,cp.eq _,cp.V ((RT.po).sl) (kX l (idx l to:Nat))] 12
         ·rfl
         ·rfl
         ·rfl
         ·rfl
         ·rfl
         ·exact a89
         ·exact qH
         ·refine ay ?_ ?_
          ·intro wD E sD;refine ab G G ?_;exact a01
          refine ay ?_ ?_
          ·intro wD E sD;refine ab G G ?_;exact a01
          refine ay ?_ ?_
          ·intro wD E sD;refine aw (a8 G ⟨_,G⟩ G ?_);exact a01
          refine ay ?_ ?_
          ·intro wD E sD;refine aw (aY bY G G ko QZ G G ?_);exact a01
          refine ay ?_ ?_
          ·intro wD E sD;refine aw (aN bG G G G (cg sD U3) G ?_);exact a01
          refine ay ?_ ?_
          ·intro wD E sD;refine ab G G ?_;exact a01
          refine ay ?_ ?_
          ·intro wD E sD;refine aw (a8 G ⟨_,G⟩ G ?_);exact a01
          refine ay ?_ ?_
          ·intro wD E sD;refine aw (aY bY G G ko QZ G G ?_);exact a01
          refine ay ?_ ?_
          ·intro wD E sD;refine aw (aN bG G G G (cg sD U3) G ?_);exact a01
          refine ay ?_ ?_
          ·intro wD E sD;refine jj (xs:=[]) (ys:=[.tmp 3]) G G G ?_;exact a01
          refine ay ?_ ?_
          ·intro wD E sD;refine aw (aw ?_);refine aQ G G acA (tY (M:=M1) (sD.lt hMX) (hlV.le sD.le) (sD.aE hTX)) (λr wi h=>?_);obtain⟨rfl,s⟩:=h;refine br (v':= .int .i64 ((idx lf to:Nat):Int)) (by rw[if_pos QK]) ?_;exact ad ⟨G,G,_,G,G,s⟩
          refine ay ?_ ?_
          ·intro wD E sD;refine aw (aw ?_);refine Rg.od (A:=RT.po) (hn:=by decide) bG iL G G G (hlV.le sD.le) q0 (λu hu=>?_);rw[ar,ha5]at hu;exact ad ⟨G,G,_,G,hu,aW⟩
          exact j0
         ·intro CV kq;refine aw (aw (aw (aw (aw (aw (aw (aw (aw (aw (aw ?_))))))))));intro oS CY;have XK:=kq.aE hbX;have k7:((RT.po).sl).V M1 CV (kX l (idx l to:Nat)) oS:=CY;have S14:=SX.av kq;refine a8 G ⟨_,G⟩ G (aY bY G G ko QZ G G ?_);refine cn (M:=M1) ko G G XK G (jc k7 G G) AT (λGL O7 oF=>?_);change GL.heap[bc]? =some (.cells #[p,.int .i64 n,oS,.int .i64 (eL l i),.int .i64 cX] 323 (0,0))at O7;replace k7:=k7.le oF.le;refine ad (T.aP (ab G G (ab G G (a8 G ⟨_,G⟩ G (aY bY G G ko QZ G G (aN bG G G G U3 G ?_))))));refine cB bG iL G G G (k7) bU a48 (λacD O8 Hs XL=>?_);obtain rfl:(d,ps)=O8:=cz (aJ (Hs.symm.trans (by simpa using hh)));refine ao (M:=M1) (A:=RT.po) (B:=RT.int .i64) ch G G I3 QZ (QM) G G QZ U3 (by repeat (first|exact bN _ _|refine bg (bO U3) ?_)) (λT5 Nl=>?_);refine bT (M:=M1) ak G G U3 (by repeat (first|exact bN _ _|refine bg (bO U3) ?_)) (λzC=>?_);refine br (v':= .int .i64 (d)) G ?_;replace zC: -9223372036854775808<=(d:Int)/\d<=9223372036854775807:=zC;refine a8 G ⟨_,G⟩ G (aY bY G G I3 QZ G G ?_);refine cn (M:=M1) I3 G G O7 G G AT (λUt O9 Hj=>?_);change Ut.heap[bc]? =some (.cells #[p,.int .i64 n,oS,.int .i64 d,.int .i64 cX] 323 (0,0))at O9;replace k7:=k7.le Hj.le;refine ad (T.aP (ab G G (a8 G ⟨_,G⟩ G (aY bY G G I3 QZ G G (aN ak G G G U3 G (Rg.aZ G G (aI ?_)))))))
          have he:rW l i to=(idx l to:Int):=by unfold rW;rw[if_neg c1]
          rw[he];have S7:=((s1.ew a18 Dk).trans ((S14.trans oF (λ_ _ h=>h)).trans Hj (λ_ _ h=>h)) (λ_ _ h=>h));exact aF rfl rfl ⟨by rw[jn hx];rfl,S7.back,p,oS,n,cX,xB,by rw[jn hx];exact O9,(hp.le QZ S7.back.le),k7.le (nY hM S7),by omega,by omega,λh=>by omega,λ_ h=>by omega⟩
    ·apply T.draw (M:=M1) mixed [cp.eq _,cp.eq _,cp.eq _,cp.eq _,cp.eq _,cp.eq _,cp.eq _,cp.eq (.bool false),cp.eq undef,cp.eq undef,cp.eq undef,cp.eq undef,cp.eq undef,cp.eq undef,cp.eq undef,cp.eq undef,cp.eq _]
     ·rfl
     ·refine aH ?_ ?_
      ·intro wD E sD;refine ab G G ?_;exact a01
      refine aH ?_ ?_
      ·intro wD E sD;refine ab G G ?_;exact a01
      refine aH ?_ ?_
      ·intro wD E sD;refine aw (a8 G ⟨_,G⟩ G ?_);exact a01
      refine aH ?_ ?_
      ·intro wD E sD;refine aw (aY bY G G sa QZ G G ?_);exact a01
      refine aH ?_ ?_
      ·intro wD E sD;refine aw (aN dJ G G G (cg sD U3) G ?_);exact a01
      refine aH ?_ ?_
      ·intro wD E sD;refine aw ?_;refine aQ G G SG (mQ (M:=M1) (LD.le QZ sD.le)) (λr wc h=>?_);obtain⟨rfl,rfl⟩:=h;exact ad ⟨G,G,_,G,congrArg (λn:Nat=>Value.int .i64 n) Lo,aW⟩
      refine aH ?_ ?_
      ·intro wD E sD;refine aw (aw (cy G G G ?_));exact a01
      refine aH ?_ ?_
      ·intro wD E sD;refine aw (aw (ab G G ?_));refine ad ⟨G,G,_,G,?_,aW⟩;exact congrArg Value.bool (decide_eq_false SH)
      refine aH ?_ ?_
      ·intro wD E sD;refine aw ?_;exact a13
      refine aH ?_ ?_
      ·intro wD E sD;refine aw (aw ?_);exact a13
      refine aH ?_ ?_
      ·intro wD E sD;refine aw (aw ?_);exact a13
      refine aH ?_ ?_
      ·intro wD E sD;refine aw (aw ?_);exact a13
      refine aH ?_ ?_
      ·intro wD E sD;refine aw ?_;exact a13
      refine aH ?_ ?_
      ·intro wD E sD;refine aw (aw (aw (aw ?_)));exact a13
      refine aH ?_ ?_
      ·intro wD E sD;refine aw ?_;exact a13
      refine aH ?_ ?_
      ·intro wD E sD;refine aw (aw (aw ?_));exact a13
      refine aH ?_ ?_
      ·intro wD E sD;refine aw (aw (aA G G G ?_));exact a01
      exact uL
     ·intro wD4 qE;refine aw (aw (aw (aw (aw (aw (aw (aw (aw (aw (aw (aw ?_)))))))))));refine aw (aw (aw (aw (aw ?_))));replace S4:=S4.av qE;replace Sn:=qE.aE Sn;replace Zj:=qE.aE Zj;replace LD:=LD.le QZ qE.le;have Uu:=S4.lt oN;refine jJ G (cN (aK (T.aP (ab G G (ab G G (a8 G ⟨_,G⟩ G (aY bY G G sa QZ G G (aN dJ G G G U3 G ?_))))))));refine aQ G G SG (mQ (M:=M1) LD) (λr wc h=>?_);obtain⟨rfl,rfl⟩:=h;refine br (v':= .int .i64 (((l.length+7)/8:Nat):Int)) (congrArg (λn:Nat=>Value.int .i64 n) Lo) (fi G G G (ad ?_));refine bF G (λc6=>?_) (λc6=>?_)
      ·refine T.aP (ab G G (ab G G (a8 G ⟨_,G⟩ G (aY bY G G ko QZ G G ?_))));refine cn (M:=M1) ko G G Sn G G AT (λw7 hb7 s7=>?_);change w7.heap[bc]? =some (.cells #[p,.int .i64 k,.slice none 0 0,.int .i64 (eL l i),.int .i64 DN] 323 (0,0))at hb7;refine a8 G ⟨_,G⟩ G (aY bY G G I3 QZ G G ?_);refine cn (M:=M1) I3 G G hb7 G G AT (λw8 hb8 s8=>?_);change w8.heap[bc]? =some (.cells #[p,.int .i64 k,.slice none 0 0,.int .i64 2147483648,.int .i64 DN] 323 (0,0))at hb8;refine ad (T.aP (Rg.aZ G G (aI ?_)));have he:rW l i to=(l.length:Int):=by unfold rW;rw[if_neg c1,Rm hm (n:=8*n) q0 Y6]
       rw[he];have S7:=((s1.av S4).ew a18 Dk).trans ((s7.trans s8 (λ_ _ h=>h))) (λ_ _ h=>h);exact aF rfl rfl ⟨by rw[qx (qt _)],S7.back,p,.slice none 0 0,k,DN,xB,by rw[qx (qt _)];exact hb8,(hp.le QZ S7.back.le),by rw[Hr (qt _)];exact iQ,by omega,hk,λh=>by omega,λ_ h=>by omega⟩
      ·exfalso;omega
theorem nU {M:aL} {w0:World} {bc:Nat} {l:List Po} {i:Int} (h:Cu 323 l i M w0 bc) (hM:Lt M w0) (hm:eD (-1) l=true) (rM:∀p∈l,p.2.length<=1099511627776) (sM:(ep (-1) l).length<=1099511627776) (LW:l.length<=1099511627776):
  Spec Tryz.prog 164 #[.pointer (some ⟨bc,0,none⟩)] w0 (λv' w'=>v'= .int .i64 (eL l (mi l i))/\Step M w0 M w' (λb=>b=bc)/\Cu 323 l (mi l i) M w' bc):=by
 obtain⟨p,u,k,DN,xB,hb,hp,hu,hi,hk,TS,pJ⟩:=id h;have hdr:=vq hm i;refine a7 (args:=[_]) (fn:=Tryz.f164) Tryz.func164 G (n:=11) Tryz.ntmps164 (T.aP (Rg.aZ G G (T.aP (ab G G (ab G G (a8 G ⟨_,G⟩ G (aY bY G G I3 QZ G G (aN ak G G G U3 G ?_))))))));refine bC G G G q0 (Rg.min2 G G G ?_);have hn:rW l i (min (eL l i+1) 2147483648)=mi l i:=O6 hm hi;refine aQ G G SF (oR (to:=min (eL l i+1) 2147483648) h hM hm rM sM LW q0) (λr w1 h1=>?_);rw[hn]at h1;obtain⟨rfl,s1,h1⟩:=h1;refine Rg.aZ G G (aI ?_);exact aF G G ⟨G,s1,h1⟩
end Go.K
namespace Go.K
open Go.Proofs
namespace TKErsA
theorem akl:TI Tryz.prog 213 (.pointer none) 1 8:=by unfold TI;kernel_rfl
theorem XG:TI Tryz.prog 323 (.agg #[(.pointer none),(.int .i64 0),(.slice none 0 0),(.int .i64 0),(.int .i64 0)]) 5 56:=by unfold TI;kernel_rfl
theorem XH:placesOf Tryz.prog 323=[(0,1),(1,1),(2,1),(3,1),(4,1)].map some:=by kernel_rfl
theorem St:Enters Tryz.prog 155:=enters Tryz.func155 rfl QZ
theorem akm:Enters Tryz.prog 218:=enters Tryz.func218 rfl QZ
theorem akn:Enters Tryz.prog 219:=enters Tryz.func219 rfl QZ
end TKErsA
open TKErsA
set_option maxRecDepth 10000
theorem Ff {M:aL} (w0:World) (hM:Lt M w0):
  Spec Tryz.prog 219 #[.pointer none] w0 (λv' w'=>∃bc,v'= .pointer (some ⟨bc,0,none⟩)/\w0.heap.size<=bc/\Step M w0 (ins M bc) w' aD/\Cu 323 [] (-1) (ins M bc) w' bc):=by
 refine a7 (args:=[_]) (fn:=Tryz.f219) Tryz.func219 G (n:=12) Tryz.ntmps219 (T.aP (Rg.aZ G G (aK (T.aP (ab G G (Rg.Mn dJ G G G (ad (T.afQ G (G) ?_))))))));refine aM ?_;refine aQ G G St (vR (l:=[]) hM iQ (λp h=>by cases h) QZ QZ QZ) (λr2 w2 hc=>?_);obtain⟨s2,fY,_⟩:=hc;obtain⟨p,rfl,hp⟩:=fY rfl;obtain⟨q,rfl⟩:=hp.lV;refine ab rfl rfl (cD rfl rfl rfl (cD rfl rfl rfl (Rg.aZ rfl rfl (T.aP (ab rfl rfl (dN (places:=[(0,1),(1,1),(2,1),(3,1),(4,1)]) bY XG XH rfl ⟨_,_,rfl,rfl,_,_,rfl,rfl,_,_,rfl,rfl,rfl⟩ (out:=[_,_,.slice none 0 0,_,.int .i64 0]) ⟨0,[_],rfl,rfl,by simp[Value.cells],1,[_],rfl,rfl,by simp[Value.cells],3,[_],rfl,rfl,by simp[Value.cells],rfl⟩ ?_))))));refine np M G G (λbc w3 h1 Rj hS s3=>?_);refine Rg.aZ G G (aI ?_);exact aF G G ⟨bc,G,by have:=s2.size;omega,s2.av s3,.pointer (some q),.slice none 0 0,-1,0,.inl rfl,hS,hp.le QZ s3.le,iQ,by decide,by decide,λ_=>rfl,λh=>by omega⟩
theorem Fg {M:aL} {v:Value} {l:List Po} (w0:World) (hM:Lt M w0) (h:cM RT.li M w0 v (kM l)\/(v= .pointer none/\l=[])):Spec Tryz.prog 219 #[v] w0 (λv' w'=>∃bc,v'= .pointer (some ⟨bc,0,none⟩)/\w0.heap.size<=bc/\Step M w0 (ins M bc) w' aD/\Cu 323 l (-1) (ins M bc) w' bc):=by
 rcases h with h|⟨rfl,rfl⟩
 ·obtain⟨q,rfl⟩:=h.lV;exact KF h
 ·exact Ff w0 hM
theorem tZ {M:aL} {s:Se} {ls:List (List Po)} {t:Fd} {v0:Value} (w0:World) (hM:Lt M w0) (hs:cM RT.se M w0 v0 s) (O2:GY s.2.2.1) (hls:s.2.2.2=ls.map kM) (xC:s.2.2.1.length=ls.length) (h1:t.1.length<=140737488355328) (h2:t.2.length<=140737488355328):
  Spec Tryz.prog 163 #[v0,kv t] w0 (λv' w'=>∃bc,v'= .pointer (some ⟨bc,0,none⟩)/\w0.heap.size<=bc/\Step M w0 (ins M bc) w' aD/\Cu 323 (SE s.2.2.1 ls (cZ t)) (-1) (ins M bc) w' bc):=by
 refine a7 (args:=[_,_]) (fn:=Tryz.f163) Tryz.func163 G (n:=19) Tryz.ntmps163 ?_;have S:Step M w0 M w0 aD:=aW;refine T.aP ?_;refine ej (A:=RT.fd) G G hM (CF h1 h2) G (λu0 w1 du s0 _=>?_);replace hs:=hs.le QZ s0.le;replace hM:=s0.lt hM;have:=S.size;replace S:=S.av s0;refine Rg.aZ G G (aK ?_);apply T.draw (M:=M) mixed [cp.eq v0,cp.eq v0,cp.ptr ((RT.di).ptr) s.2.2,cp.ptr RT.di s.2.2,cp.eq (kv t),cp.eq (sv (cZ t)),(cp.mk' (λv w=>∃p,v= .tuple #[p,.bool (decide (cZ t∈s.2.2.1))]/\wW s.2.2 (cZ t) M p w) (fun⟨p,h1,h2⟩ s=>⟨p,h1,h2.step s⟩)),(cp.mk' (λv w=>∃p,v= .tuple #[p,.bool (decide (cZ t∈s.2.2.1))]/\wW s.2.2 (cZ t) M p w) (fun⟨p,h1,h2⟩ s=>⟨p,h1,h2.step s⟩)),(cp.mk' (λv w=>wW s.2.2 (cZ t) M v w) (λh s=>h.step s)),cp.eq (.bool (decide (cZ t∈s.2.2.1))),(cp.mk' (λv w=>wW s.2.2 (cZ t) M v w) (λh s=>h.step s)),cp.eq (.bool (decide (cZ t∈s.2.2.1)))]
 ·rfl
 ·refine aH ?_ ?_
  ·intro wD E sD;refine ab G G ?_;exact a01
  refine aH ?_ ?_
  ·intro wD E sD;refine aw (a8 G hs.lV G ?_);exact a01
  refine aH ?_ ?_
  ·intro wD E sD;refine aw ?_;refine ao (M:=M) (A:=RT.se) (B:=(RT.di).ptr) Tryz.underlying215 G G akl QZ se2 G G QZ hs sD.le (λuf tW=>?_);exact a73
  refine aH ?_ ?_
  ·intro wD E sD;intro v2 Bo;refine bD Tryz.underlying213 G G G G G (show cM ((RT.di).ptr) M wD v2 s.2.2 from Bo) bU (λvd hvd=>?_);exact ad ⟨G,G,_,G,IZ.1 hvd,aW⟩
  refine aH ?_ ?_
  ·intro wD E sD;refine bR (M:=M) (A:=RT.fd) bI G lA QZ G G G du sD.le (λvt hvt=>?_);obtain rfl:=ki hvt;exact a01
  refine aH ?_ ?_
  ·intro wD E sD;refine aw ?_;refine aQ G G E95 (KE (t:=t) _ (sD.lt hM) h1 h2) (λr5 w5 hc=>?_);obtain⟨rfl,s5⟩:=hc;exact ad ⟨G,G,_,G,G,s5⟩
  refine aH ?_ ?_
  ·intro wD E sD;intro v3 tK;refine aw (aw ?_);refine aQ rfl rfl akm (find_spec (k:=cZ t) _ (sD.lt hM) (show cM RT.di M wD v3 s.2.2 from tK) O2 (by rw[hls,b9];exact xC)) (λr6 w6 hc=>?_);obtain⟨s6,hr⟩:=hc;refine ad ⟨G,G,_,G,?_,s6⟩;rcases hr with⟨j,p,tl,rfl,h3,h4,h5⟩|⟨rfl,h3⟩
   ·exact⟨p,by rw[decide_eq_true (au h3)],.inl ⟨j,tl,h3,h4,h5⟩⟩
   ·exact⟨_,by rw[decide_eq_false h3],.inr ⟨rfl,h3⟩⟩
  refine aH ?_ ?_
  ·intro wD E sD;intro v6 pw;refine ab G G ?_;exact ad ⟨G,G,_,G,pw,aW⟩
  refine aH ?_ ?_
  ·intro wD E sD;intro v7 Ew;obtain⟨p,rfl,hp⟩:=Ew;refine cD G G G ?_;exact ad ⟨G,G,_,G,hp,aW⟩
  refine aH ?_ ?_
  ·intro wD E sD;intro v7 Ew;obtain⟨p,rfl,hp⟩:=Ew;refine cD G G G ?_;exact a01
  refine aH ?_ ?_
  ·intro wD E sD;intro v8 Dr;intro v6 pw;refine aw (aw ?_);intro v2 Bo;intro v3 tK;refine aw (aw ?_);intro v6 pw;intro v7 Ew;intro v8 Dr;refine aG G G ?_;exact ad ⟨G,G,_,G,Dr,aW⟩
  refine aH ?_ ?_
  ·intro wD E sD;refine aw ?_;intro v10 oO;refine aw (aw ?_);intro v2 Bo;intro v3 tK;refine aw (aw ?_);intro v6 pw;intro v7 Ew;intro v8 Dr;refine aw ?_;intro v10 oO;refine aG G G ?_;exact a01
  exact uL
 ·intro J4 l4;refine aw (aw ?_);intro acq Jd;intro WM I1;refine aw (aw ?_);intro atr aoY;intro abZ OF;intro att aoZ;refine aw ?_;intro acE Ht;refine aw ?_;replace Ht:wW s.2.2 (cZ t) M acE J4:=Ht;have hF:=Ht;replace hM:=l4.lt hM;replace S:=S.av l4;replace hs:=hs.le QZ l4.le;replace du:=du.le QZ l4.le;refine T.aP (ab G G ?_)
  refine aQ G G akn (Fg (l:=SE s.2.2.1 ls (cZ t)) _ hM (by
   rcases hF with⟨j,tl,Y7,wz,sL⟩|⟨h,jz⟩
   ·rw[hls,ei]at wz;obtain⟨l,hl1,rfl⟩:=Option.map_eq_some_iff.1 wz;exact .inl (by rw[O3 O2.nodup Y7 hl1];exact sL)
   ·exact .inr ⟨h,E9 jz⟩)) (λr2 w2 hc=>?_)
  obtain⟨bc,rfl,hbc,s2,jX⟩:=hc;refine Rg.aZ G G (aI ?_);exact aF G G ⟨bc,G,by have:=S.size;omega,S.av s2,jX⟩
end Go.K
namespace Go.K
open Go.Proofs
namespace TKErsB
theorem SJ:Enters Tryz.prog 163:=enters Tryz.func163 rfl QZ
theorem Hu:Enters Tryz.prog 164:=enters Tryz.func164 rfl QZ
end TKErsB
open TKErsB
set_option maxRecDepth 10000
structure OkC (l:List Po):Prop where
 may:eD (-1) l=true
 ps:∀p∈l,p.2.length<=1099511627776
 by_:(ep (-1) l).length<=1099511627776
 ln:l.length<=1099511627776
theorem Pb {L:List En} (hF:∀e∈L,iy e.1) (hn:L.length<=1000000) (k:List UInt8):OkC (pk L k):=by
 have h1:=vL k L 0 hF;have tU:eD (-1) (pk L k)=true:=xL k L 0 (-1) hF q0 q0;have rM:∀p∈pk L k,p.2.length<=500:=λp hp=>(h1.2 p hp).2.2
 obtain⟨h2,h3⟩:=vM (pk L k) (-1) 500 q0 tU rM q0;have hl:(pk L k).length<=L.length:=h1.1;exact⟨tU,λp hp=>by have:=rM p hp;omega,by omega,by omega⟩
end Go.K
namespace Go.K
open Go.Proofs
namespace TKBldJ
theorem KB:TI Tryz.prog 112 (.slice none 0 0) 1 24:=by unfold TI;kernel_rfl
theorem Sw:TI Tryz.prog 114 (.agg #[(.slice none 0 0),(.slice none 0 0),(.slice none 0 0),(.slice none 0 0)]) 4 96:=by unfold TI;kernel_rfl
theorem ko:TI Tryz.prog 117 (.slice none 0 0) 1 24:=by unfold TI;kernel_rfl
theorem E48:Enters Tryz.prog 48:=enters Tryz.func48 rfl QZ
theorem E49:Enters Tryz.prog 49:=enters Tryz.func49 rfl QZ
theorem E50:Enters Tryz.prog 50:=enters Tryz.func50 rfl QZ
theorem E51:Enters Tryz.prog 51:=enters Tryz.func51 rfl QZ
theorem E52:Enters Tryz.prog 52:=enters Tryz.func52 rfl QZ
end TKBldJ
open TKBldJ
set_option maxRecDepth 10000
set_option maxHeartbeats 4000000 in
theorem Hv {M:aL} {L:List En} {v0:Value} (w0:World) (hM:Lt M w0) (hv:(RT.en.sl).V M w0 L v0) (hl:∀e∈L,∀f∈e.1.2,f.1.length<=900000/\f.2.length<=900000) (hn:L.length<=100000) (fY:BI (-1) L=true):
  Spec Tryz.prog 11 #[v0] w0 (λv w=>∃s,v= .tuple #[s,.int .i64 0]/\cM RT.se M w s (F9 (jq L))/\Step M w0 M w aD):=by
 have gX:=hM;have hF:=kP fY
 have hkn:(keysOf L).length<=500000000:=by
  have h1:=(oJ L).nodup.length_le_of_subset (l₂:=jw L) (λx hx=>mc.1 hx);have:=vP hF;omega
 have MG:∀k∈keysOf L,k.length<=43:=λk hk=>wT hF k (mc.1 hk)
 refine a7 (args:=[_]) (fn:=Tryz.f11) Tryz.func11 G (n:=63) Tryz.ntmps11 ?_;have S:Step M w0 M w0 aD:=aW;refine T.aP (aG G G (Rg.aZ G G (T.aP ?_)));refine aQ G G E48 (Og (Z:=λk=>w0.heap.size<=k) (B:=w0.heap.size) _ hM (bu _) (λk hk=>hk)) (λr1 w1 hc=>?_);obtain⟨M1,b1,rfl,_,gQ,s1⟩:=hc;replace gQ:=gQ.Ks (Z':=λk=>w0.heap.size<=k/\k<w1.heap.size) (λc hc eQ=>⟨hc,eQ⟩);replace hv:=hv.le s1.le;replace hM:=s1.lt hM;have:=S.size;replace S:=S.av s1;refine Rg.aZ G G (T.aP ?_);refine eB M1 Sw G (λgw Wa ahC ahD Eb yP=>?_);obtain⟨MX,yQ⟩:∃M',M'=ins M1 gw:=⟨_,rfl⟩;rw[<-yQ]at yP;have yR:MX gw:=by rw[yQ];exact .inl G
 change Wa.heap[gw]? =some (.cells #[.slice none 0 0,.slice none 0 0,.slice none 0 0,.slice none 0 0] _ _)at Eb;replace hv:=hv.le yP.le;replace gQ:=gQ.bQ yP;replace hM:=yP.lt hM;have:=S.size;replace S:=S.av yP;refine ad (aK (T.aP (ab G G (bz fB G hv G (ab G G (ad (aX ?_)))))));refine cY (σ:=Nat×Value×Value) (λq=>[(4,.pointer (some ⟨b1,0,none⟩)),(5,.pointer (some ⟨gw,0,none⟩)),(12,v0),(13,.int .i64 (L.length:Int)),(14,.int .i64 (q.1:Int))]) (λq w=>∃M' words,Lt M' w/\Step M w0 M' w aD/\(RT.en.sl).V M' w L v0/\nR (ZP w0.heap.size gw q.2.1 q.2.2) M' w w0.heap.size b1 (L.take q.1) words (mR (-1) (L.take q.1))/\w.heap[gw]? =some (.cells #[q.2.1,q.2.2,.slice none 0 0,.slice none 0 0] 114 (0,0))/\M' gw/\Own (RT.int .i64) 3 M' w w0.heap.size q.2.1 ((L.take q.1).map (·.1.1))/\Own (RT.int .i64) 3 M' w w0.heap.size q.2.2 ((L.take q.1).map (·.2))/\ka q.2.1 q.2.2/\0<=words/\words<=500*(q.1:Int)/\q.1<=L.length) (λq=>L.length-q.1) (0,.slice none 0 0,.slice none 0 0) a05 ?_ ?_
 ·exact⟨_,0,hM,S,hv,gQ.Ks (Z':=ZP w0.heap.size gw (.slice none 0 0) (.slice none 0 0)) (λc hc eQ=>⟨hc.1,(λh=>by have:=hc.2;omega),(λh=>by cases h),(λh=>by cases h)⟩),Eb,yR,eJ _ _ _ _ _,eJ _ _ _ _ _,ka.nil _,by omega,by omega,bp _⟩
 ·clear hM S hv gQ;rintro⟨i,vi,vs⟩ w ⟨M2,words,hM,S,hv,gQ,g2,dO,nc,nj,R0,hw1,hw2,hi⟩;dsimp only at gQ g2 nc nj R0 hw2 hi ⊢;refine T.aP (cy G G G (ad (aK ?_)));refine bF G (λc4=>?_) (λc4=>?_)
  ·refine aR (aK (aX (T.aP ?_)));refine cB fB F7 G G G hv bU q0 (λu5 e J2 lB=>?_);rw[ar]at J2;obtain⟨UD,XM⟩:=O0 fY J2;have hem:=au J2;refine bR (A:=RT.en) dQ G F7 QZ G G G lB bU (λv5 pL=>?_);obtain⟨Zk,Ao⟩:=XB pL;refine rG (A:=RT.en) (M:=M2) F7 G G G G G U3 bU hM (λab2 atz tV Fh atA=>?_);have:=ah g2;replace dO:=(Fh.mem _ this).2 dO;replace g2:=Fh.aE g2;replace hv:=hv.le Fh.le;replace nc:=nc.bQ Fh;replace nj:=nj.bQ Fh;replace gQ:=gQ.bQ Fh;replace hM:=Fh.lt hM;have:=S.size;replace S:=S.av Fh;refine ad (aK (T.aP (ab G G ?_)));refine bR (A:=RT.en) dQ G F7 QZ G G G tV bU (λv6 pw=>?_);refine aQ G G E49 (Oi (Z:=ZP w0.heap.size gw vi vs) _ hM (λk hk=>⟨by have:=S.size;omega,λh=>by have:=ah g2;omega,λh=>by have:=(nc.base k h).2;omega,λh=>by have:=(nj.base k h).2;omega⟩) gQ ae9 pw (hl e hem) (λx hx=>hF x (xi hx)) a11 q0) (λr6 w6 hc=>?_);obtain⟨M6,OA,s6,rfl,_,Vv⟩:=hc;replace gQ:=Vv UD;have Ue:(sT e).length<=500:=(hF e hem).many;refine br (v':= .int .i64 0) (by rw[UD]) ?_;replace nc:=nc.step s6 (λc hc h=>h.1.2.2.1 hc);replace nj:=nj.step s6 (λc hc h=>h.1.2.2.2 hc);replace dO:=(s6.mem _ (ah g2)).2 dO;replace g2:=s6.bW g2 (λh=>h.1.2.1 rfl);replace hv:=hv.le s6.le;replace tV:=tV.le QZ s6.le;replace S:=S.ck s6 (λk hk=>hk.1.1);replace hM:=OA;rw[XM.symm]at gQ;refine Rg.aZ G G (T.aP (ab G G (eV G G G (ad (T.LJ G ((λh=>h rfl)) (aR ?_))))));have g2p:=g2;have acF:=dO;have hvp:=hv;have acG:=gQ;have Pc:=nc;have Pd:=nj;have hMp:=hM;have Sp:=S;obtain⟨P6,hP6⟩:∃P6:Value->World->Prop,P6=λv w'=>Own (RT.int .i64) 3 (qO v) w' w0.heap.size v ((L.take i).map (·.1.1)++[e.1.1])/\(∀c,v.ownBlock=some c->w6.heap.size<=c\/vi.ownBlock=some c):=⟨_,rfl⟩
   have h6:∀{v:Value} {w w':World},P6 v w->Step M6 w M6 w' aD->P6 v w':=λ{v w w'} h s=>by rw[hP6]at h ⊢;exact⟨h.1.UB s (λ_ _ h=>h),h.2⟩
   apply T.UA (M:=M6) [0,1,2,3,4,5,6,7,8,9,10,11,13,12,14,15,16] 13 12 37 (.pointer (some ⟨gw,0,none⟩)) [(6,mA vi)] [cp.eq (.pointer (some ⟨gw,0,none⟩)),cp.eq vi,cp.ptr RT.dc e.1,cp.ptr (RT.int .i64) e.1.1,cp.eq (.int .i64 e.1.1),cp.V ((RT.int .i64).sl) [e.1.1],(cp.mk' (λv w=>P6 v w) (λh s=>h6 h s)),cp.eq (.pointer (some ⟨gw,1,none⟩)),cp.eq vs,cp.ptr (RT.int .i64) e.2,cp.eq (.int .i64 e.2),cp.V ((RT.int .i64).sl) [e.2],cp.eq (.pointer (some ⟨gw,0,none⟩))] [] mixed
   ·simp+decide only[Ay,ti,eI,rE,nZ,n0,nk,fe,k9,xT,cond_true,cond_false,Nat.reduceBEq,Nat.reduceAdd,beq_self_eq_true];rfl
   ·rfl
   ·rfl
   ·rfl
   ·rfl
   ·rfl
   ·rfl
   ·rfl
   ·rfl
   ·rfl
   ·rfl
   ·rfl
   ·exact λρ w h _=>Ho (size:=1) (o:=0) (o':=0) dp G G ph QZ (h (.tmp 5) _ G) w
   ·exact λg hg=>by cases hg
   ·intro p hp b hb;simp only[dz,List.not_mem_nil,or_false]at hp;subst hp;exact nc.mut_ b hb
   ·exact λp hp=>by
     simp only[dz,List.not_mem_nil,or_false]at hp;subst hp;show(6:Nat)≠12;decide
   ·exact qL.st (by exact⟨λ_ _ _ _=>trivial,⟨λ_ _ _ _=>trivial,⟨λ_ _ _ _=>trivial,⟨λ_ _ _ _=>trivial,⟨λ_ _ _ _=>trivial,⟨λ_ _ _ _=>trivial,⟨λp hp b hb=>(by simp at hp),⟨λ_ _ _ _=>trivial,⟨λ_ _ _ _=>trivial,⟨λ_ _ _ _=>trivial,⟨λ_ _ _ _=>trivial,⟨λ_ _ _ _=>trivial,⟨λ_ _ _ _=>trivial,trivial⟩⟩⟩⟩⟩⟩⟩⟩⟩⟩⟩⟩⟩)
   intro wR9 sA9;have Pe:=sA9 M6;have:=ah g2;replace dO:=(Pe.mem _ this).2 dO;replace g2:=Pe.aE g2;replace hv:=hv.le Pe.le;replace tV:=tV.le QZ Pe.le;replace nc:=nc.bQ Pe;replace nj:=nj.bQ Pe;replace gQ:=gQ.bQ Pe;replace hM:=Pe.lt hM;have:=S.size;replace S:=S.av Pe;have g2R:=g2;have acH:=nc;have atE:=nj;have hz6:=Pe.size;refine⟨?_,?_⟩
   ·refine ay ?_ ?_
    ·intro wD E sD;replace sD:Step M6 _ M6 wD (mA vi):=sD;refine aY (o':=0) dp G G ph QZ G G ?_;exact a01
    refine ay ?_ ?_
    ·intro wD E sD;replace sD:Step M6 _ M6 wD aD:=sD;refine aw (aN ax G G G (sD.aE g2R) G ?_);exact a01
    refine ay ?_ ?_
    ·intro wD E sD;replace sD:Step M6 _ M6 wD (mA vi):=sD;refine ao (M:=M6) (A:=RT.en) (B:=RT.dc) dQ G G kU QZ VI G G QZ tV sD.le (λuf tW=>?_);exact a73
    refine ay ?_ ?_
    ·intro wD E sD;replace sD:Step M6 _ M6 wD (mA vi):=sD;intro v2 Bo;refine ao (A:=RT.dc) (B:=RT.int .i64) aT G G I3 QZ Z9 G G QZ (show cM RT.dc M6 wD v2 e.1 from Bo) bU (λuf tW=>?_);exact a73
    refine ay ?_ ?_
    ·intro wD E sD;replace sD:Step M6 _ M6 wD (mA vi):=sD;intro v3 tK;refine bT ak G G (show cM (RT.int .i64) M6 wD v3 e.1.1 from tK) bU (λkZ=>?_);exact a01
    refine ay ?_ ?_
    ·intro wD E sD;replace sD:Step M6 _ M6 wD aD:=sD;refine aw ?_;refine fw (A:=RT.int .i64) (hn:=by decide) (M:=M6) ax I3 QZ G G (sD.lt hM) (gJ Zk) (.inr ⟨G,G⟩) (λuS wS hS sS=>?_);exact ad ⟨G,G,_,G,hS,sS⟩
    refine ay ?_ ?_
    ·intro wD E sD;replace sD:Step M6 _ M6 wD aD:=sD;refine aw ?_;intro v5 pL;replace sD:Step M6 wR9 M6 wD aD:=sD;refine Rg.mF (M:=M6) (base:=w0.heap.size) ax I3 rfl rfl rfl rfl (acH.bQ sD) (show((RT.int .i64).sl).V M6 wD [e.1.1] v5 from pL) bU a11 a11 (by have:=sD.size;have:=S.size;omega) (λvA wA hoA sA hFA=>?_);exact ad ⟨G,G,_,G,by show P6 vA wA;rw[hP6];exact⟨hoA.lone,λc hc=>(hFA c hc).elim (λh=> .inl (by have:=sD.size;omega)) .inr⟩,sA.back⟩
    refine ay ?_ ?_
    ·intro wD E sD;replace sD:Step M6 _ M6 wD (mA vi):=sD;refine aY (o':=1) dp G G ph QZ G G ?_;exact a01
    refine ay ?_ ?_
    ·intro wD E sD;replace sD:Step M6 _ M6 wD (mA vi):=sD;refine aw (aN ax G G G (sD.bW g2R (λh=>acH.fA g2R QZ h)) G ?_);exact a01
    refine ay ?_ ?_
    ·intro wD E sD;replace sD:Step M6 _ M6 wD (mA vi):=sD;refine ao (M:=M6) (A:=RT.en) (B:=RT.int .i64) dQ G G I3 QZ en1 G G QZ tV sD.le (λuf tW=>?_);exact a73
    refine ay ?_ ?_
    ·intro wD E sD;replace sD:Step M6 _ M6 wD (mA vi):=sD;intro v9 Kf;refine bT ak G G (show cM (RT.int .i64) M6 wD v9 e.2 from Kf) bU (λkZ=>?_);exact a01
    refine ay ?_ ?_
    ·intro wD E sD;replace sD:Step M6 _ M6 wD (mA vi):=sD;refine aw ?_;refine fw (A:=RT.int .i64) (hn:=by decide) (M:=M6) ax I3 QZ G G (sD.lt hM) (gJ Ao) (.inr ⟨G,G⟩) (λuS wS hS sS=>?_);exact ad ⟨G,G,_,G,hS,sS⟩
    refine ay ?_ ?_
    ·intro wD E sD;replace sD:Step M6 _ M6 wD (mA vi):=sD;refine aw (aw ?_);intro v2 Bo;intro v3 tK;refine aw ?_;intro v5 pL;intro v6 pw;refine aw (aw (aY (o':=0) dp G G ph QZ G G ?_));exact a01
    exact j0
   ·intro Up AO;replace AO:Step M6 _ M6 Up (mA vi):=AO;refine aw (aw ?_);intro aiy Ol;intro atH ao2;refine aw ?_;intro atI ao3;intro CZ Je;refine aw (aw ?_);intro atJ ao4;refine aw ?_;intro acI Hw;refine aw ?_;replace Je:P6 CZ Up:=Je;rw[hP6]at Je;obtain⟨ze,hb9⟩:=Je;replace Hw:((RT.int .i64).sl).V M6 Up [e.2] acI:=Hw;have sX:Step M6 w6 M6 Up (mA vi):=(Pe.ew a18 (λb h=>Pc.mut_ b h)).trans AO (λb _ h=>h);have aks:=Pd.step sX (λc hc h=>R0 c h hc);refine Rg.mF (M:=M6) (base:=w0.heap.size) ax I3 rfl rfl rfl rfl aks Hw bU a11 a11 (by have:=Sp.size;have:=sX.size;omega) (λv12 Lw akt lu acJ=>?_)
    have NR:∀c,CZ.ownBlock=some c->vs.ownBlock≠some c:=λc hc hv=>by
     rcases hb9 c hc with h|h
     ·have:=(Pd.base c hv).2;omega
     ·exact R0 c h hv
    have acK:=ze.UB lu (λc hc h=>NR c hc h)
    have acL:ka v12 CZ:=λc hc SL=>by
     rcases acJ c hc with h|h
     ·have:=(ze.base c SL).2;omega
     ·exact NR c SL h
    have SI:∀c,v12.ownBlock=some c->w6.heap.size<=c\/vs.ownBlock=some c:=λc hc=>(acJ c hc).elim (λh=> .inl (by have:=sX.size;omega)) .inr
    have sZ:Step M6 w6 (lL M6 v12) Lw (λk=>mA vi k\/mA vs k):=(sX.ew (λ_ h=> .inl h) (λb h=>h.elim (Pc.mut_ b) (Pd.mut_ b))).trans lu (λb _ h=> .inr h);obtain⟨M12,XN⟩:∃M',M'=lL (lL M6 v12) CZ:=⟨_,rfl⟩;have sW:Step M6 w6 M12 Lw (λk=>mA vi k\/mA vs k):=by rw[XN];exact sZ.ajU (λc hc=>⟨(acK.base c hc).2,(hb9 c hc).elim .inl (λh=> .inr (.inr (Pc.mut_ c h)))⟩)
    have nc:=acK.Ru (M':=M12) (by rw[XN];exact λb hb=> .inl hb);have nj:=akt.Ru (M':=M12) (by rw[XN];exact λb hb=> .inr (.inl hb));have dO:=(sW.mem _ (ah g2p)).2 acF;have g2:=sW.bW g2p (λh=>h.elim (Pc.fA g2p QZ) (Pd.fA g2p QZ));have gQ:=((acG.Ks (Z':=λk=>ZP w0.heap.size gw vi vs k/\ZP w0.heap.size gw CZ v12 k) (λc hc eQ=>⟨hc,hc.1,hc.2.1,λh=>(hb9 c h).elim (λh=>by omega) hc.2.2.1,λh=>(SI c h).elim (λh=>by omega) hc.2.2.2⟩)).step sW (λk hk hz=>hk.elim hz.1.2.2.1 hz.1.2.2.2)).Ks (Z':=ZP w0.heap.size gw CZ v12) (λc hc _=>hc.2);have hv:=hvp.le sW.le;have S:=Sp.ck sW (λk hk=>hk.elim (λh=>(Pc.base k h).1) (λh=>(Pd.base k h).1));have hM:=sW.lt hMp;refine ad ⟨G,G,λh=>absurd G h,?_⟩;refine cn (M:=M12) ph rfl rfl g2 rfl (by obtain⟨_,_,he,_⟩:=nc.isSlice;rw[he];rfl) dO (λNB g14 jv=>?_);replace g14:NB.heap[gw]? =some (.cells #[CZ,vs,.slice none 0 0,.slice none 0 0] 114 (0,0)):=g14;replace nc:=nc.step jv (λc hc (h:c=gw)=>nc.fA g2 QZ (h▸hc));replace nj:=nj.step jv (λc hc (h:c=gw)=>nj.fA g2 QZ (h▸hc));replace dO:=(jv.mem _ (ah g2)).2 dO;replace gQ:=gQ.step jv (λk (hk:k=gw) hz=>hz.2.1 hk);replace hv:=hv.le jv.le;replace S:=S.ck jv (λk (hk:k=gw)=>by rw[hk];omega);replace hM:=jv.lt hM;clear g2;have g2:=g14;refine ad ⟨G,G,λh=>absurd G h,aY (o':=1) dp G G ph QZ G G (ad ⟨G,G,λh=>absurd G h,?_⟩)⟩;refine cn (M:=M12) ph rfl rfl g2 rfl (by obtain⟨_,_,he,_⟩:=nj.isSlice;rw[he];rfl) dO (λUt g16 Hj=>?_);replace g16:Ut.heap[gw]? =some (.cells #[CZ,v12,.slice none 0 0,.slice none 0 0] 114 (0,0)):=g16;replace nc:=nc.step Hj (λc hc (h:c=gw)=>nc.fA g2 QZ (h▸hc));replace nj:=nj.step Hj (λc hc (h:c=gw)=>nj.fA g2 QZ (h▸hc));replace dO:=(Hj.mem _ (ah g2)).2 dO
    replace gQ:=gQ.step Hj (λk (hk:k=gw) hz=>hz.2.1 hk);replace hv:=hv.le Hj.le;replace S:=S.ck Hj (λk (hk:k=gw)=>by rw[hk];omega);replace hM:=Hj.lt hM;clear g2;have g2:=g16;refine ad ⟨G,G,λh=>absurd G h,pH (aM (bC G G G q0 (ab G G (ad ?_))))⟩;have et:L.take (i+1)=L.take i++[e]:=by rw[b7,J2,dH]
    rw[et]at gQ;refine⟨G,(i+1,CZ,v12),a05,?_,?_⟩
    ·exact⟨_,_,hM,S,hv,by rw[et];exact gQ,g2,dO,by rw[et,dM];exact nc,by rw[et,dM];exact nj,acL.symm,by omega,by dsimp only;omega,by dsimp only;omega⟩
    ·dsimp only;omega
  ·refine cN (T.aP ?_);have hLi:L.take i=L:=bm q0;rw[hLi]at gQ nc nj;refine ab G G ?_;refine aQ G G E50 (G5 _ hM gQ hF q0) (λrk w11 hc=>?_);obtain⟨BL,zw⟩:=hc;have:=ah g2;replace dO:=(zw.mem _ this).2 dO;replace g2:=zw.aE g2;replace hv:=hv.le zw.le;replace nc:=nc.bQ zw;replace nj:=nj.bQ zw;replace gQ:=gQ.bQ zw;replace hM:=zw.lt hM;have:=S.size;replace S:=S.av zw;refine aY (o':=2) dp G G xp QZ G G ?_;refine cn (M:=M2) xp G G g2 G (jc BL G G) dO (λEp dh fQ=>?_);change Ep.heap[_]? =some (Obj.cells #[vi,vs,rk,.slice none 0 0] _ _)at dh;have:=ah g2;replace dO:=(fQ.mem _ this).2 dO;replace hv:=hv.le fQ.le;replace BL:=BL.le fQ.le;replace nc:=nc.step fQ (λc hc (h:c=gw)=>nc.fA g2 QZ (h▸hc));replace nj:=nj.step fQ (λc hc (h:c=gw)=>nj.fA g2 QZ (h▸hc));replace gQ:=gQ.stepT fQ a43;replace hM:=fQ.lt hM;have:=S.size;replace S:=S.trans fQ (λk hk h=>by have h:_=_:=h;subst h;first|(exfalso;omega)|(show _<=_;omega)|exact⟨by first|omega|assumption,(S.mem _ hk).1 ((fQ.mem _ (ah g2)).1 dO)⟩|exact .inl rfl|exact .inr rfl|exact .inr (.inl rfl)|exact .inr (.inr rfl)|exact .inr (.inr (.inl rfl))|exact rfl);have NF:=dh;clear g2;have g2:=NF;clear NF;refine ad (aK (T.aP (aY (o':=2) dp G G xp QZ G G (aN aB G G G g2 G (br (v':=rk) G (bz aB G BL G (ab G G (ad (aX ?_)))))))));refine cY (σ:=Nat×Value) (λq=>[(4,.pointer (some ⟨b1,0,none⟩)),(5,.pointer (some ⟨gw,0,none⟩)),(44,rk),(45,.int .i64 ((keysOf L).length:Int)),(46,.int .i64 (q.1:Int))]) (λq w=>∃M',Lt M' w/\Step M w0 M' w aD/\nR (ZP w0.heap.size gw vi vs) M' w w0.heap.size b1 L words (mR (-1) L)/\w.heap[gw]? =some (.cells #[vi,vs,rk,q.2] 114 (0,0))/\M' gw/\Own (RT.int .i64) 3 M' w w0.heap.size vi (L.map (·.1.1))/\Own (RT.int .i64) 3 M' w w0.heap.size vs (L.map (·.2))/\Own ((RT.po).sl) 117 M' w w0.heap.size q.2 (((keysOf L).take q.1).map (pk L))/\(RT.str.sl).V M' w (keysOf L) rk/\q.1<=(keysOf L).length) (λq=>(keysOf L).length-q.1) (0,.slice none 0 0) a05 ?_ ?_
   ·exact⟨_,hM,S,gQ,g2,dO,nc,nj,eJ _ _ _ _ _,BL,bp _⟩
   ·clear hM S gQ g2 dO nc nj BL hv;rintro⟨i3,vl⟩ w ⟨M3,hM,S,gQ,g2,dO,nc,nj,rr,BL,hi3⟩;dsimp only at g2 rr hi3 ⊢;refine T.aP (cy G G G (ad (aK ?_)));refine bF G (λwM=>?_) (λwM=>?_)
    ·refine aR (aK (aX (T.aP ?_)));refine cB aB I9 G G G BL bU q0 (λKH k XO qj=>?_);rw[ar]at XO;refine bD az G G G G G qj bU (λvk hvk=>?_);obtain rfl:=dS hvk;refine Rg.aZ G G ?_;apply T.pR 4 [0,1] 2 aD mixed rfl rfl rfl rfl;intro Xe OE;have pA:=OE M3;have:=ah g2;replace dO:=(pA.mem _ this).2 dO;replace g2:=pA.aE g2;replace BL:=BL.le pA.le;replace nc:=nc.bQ pA;replace nj:=nj.bQ pA;replace rr:=rr.bQ pA;replace gQ:=gQ.bQ pA;replace hM:=pA.lt hM;have:=S.size;replace S:=S.av pA;refine aY (o':=3) dp G G KB QZ G G (Rg.de (aN Tryz.underlying112 G G G (by first|assumption|exact cg pA U3) G (Rg.de (ab G G (Rg.de (ab G G (Rg.de (fF (⟨jC ⟨oW dp G KB QZ,⟨ic G g2 (λh=>h),trivial⟩⟩,?_⟩)))))))));have kp:=kT aD Xe;refine aQ G G E51 (G6 (k:=k) _ hM gQ hF q0 (by have:=MG k (au XO);omega)) (λr15 GL hc=>?_);obtain⟨On,oF⟩:=hc;have:=ah g2;replace dO:=(oF.mem _ this).2 dO;replace g2:=oF.aE g2;replace BL:=BL.le oF.le;replace nc:=nc.bQ oF;replace nj:=nj.bQ oF;replace rr:=rr.bQ oF;replace gQ:=gQ.bQ oF;replace hM:=oF.lt hM;have:=S.size;replace S:=S.av oF;refine(fun(kp:fy _ _ _)=>ad ⟨G,G,λ_=>kp,?_⟩) a02;refine fw (A:=((RT.po).sl)) (hn:=by decide) (M:=M3) Tryz.underlying112 ko QZ G G hM (On) (.inr ⟨G,G⟩) (λao5 Uk zD jT=>?_);have:=ah g2;replace dO:=(jT.mem _ this).2 dO;replace g2:=jT.aE g2;replace BL:=BL.le jT.le
     replace On:=On.le jT.le;replace nc:=nc.bQ jT;replace nj:=nj.bQ jT;replace rr:=rr.bQ jT;replace gQ:=gQ.bQ jT;replace hM:=jT.lt hM;have:=S.size;replace S:=S.av jT;refine(fun(kp:fy _ _ _)=>ad ⟨G,G,λ_=>kp,?_⟩) a02;refine dF (M:=M3) (base:=w0.heap.size) Tryz.underlying112 ko rfl rfl rfl rfl rr zD bU a11 a11 (S.size) (λUE acN ao6 XP rz=>?_);have:=ah g2;replace dO:=(rz.mem _ this).2 dO;replace g2:=rz.bW g2 (λh=>by first|exact rr.eF g2 h|exact rr.fA g2 QZ h|(have:=(rr.base _ h).1;omega));replace BL:=BL.le rz.le;replace On:=On.le rz.le;replace zD:=zD.le rz.le;replace nc:=nc.step rz (λb h1 h2=>nc.jf rr QZ h1 h2);replace nj:=nj.step rz (λb h1 h2=>nj.jf rr QZ h1 h2);replace gQ:=gQ.stepT rz a43;replace hM:=rz.lt hM;have:=S.size;replace S:=S.dU rz rr (bu _);replace rr:=XP;refine ad ⟨G,G,λh=>absurd G h,aY (o':=3) dp G G KB QZ G G (ad ⟨G,G,λh=>absurd G h,?_⟩)⟩;refine cn (M:=acN) KB rfl rfl g2 rfl (by obtain⟨_,_,he,_⟩:=rr.isSlice;rw[he];rfl) dO (λacO UF ql=>?_);change acO.heap[_]? =some (Obj.cells #[vi,vs,rk,UE] _ _)at UF;have:=ah g2;replace dO:=(ql.mem _ this).2 dO;replace BL:=BL.le ql.le;replace On:=On.le ql.le;replace zD:=zD.le ql.le;replace nc:=nc.step ql (λc hc (h:c=gw)=>nc.fA g2 QZ (h▸hc));replace nj:=nj.step ql (λc hc (h:c=gw)=>nj.fA g2 QZ (h▸hc))
     replace rr:=rr.step ql (λc hc (h:c=gw)=>rr.fA g2 QZ (h▸hc));replace gQ:=gQ.stepT ql a43;replace hM:=ql.lt hM;have:=S.size;replace S:=S.trans ql (λk hk h=>by have h:_=_:=h;subst h;first|(exfalso;omega)|(show _<=_;omega)|exact⟨by first|omega|assumption,(S.mem _ hk).1 ((ql.mem _ (ah g2)).1 dO)⟩|exact .inl rfl|exact .inr rfl|exact .inr (.inl rfl)|exact .inr (.inr rfl)|exact .inr (.inr (.inl rfl))|exact rfl);have NF:=UF;clear g2;have g2:=NF;clear NF;refine ad ⟨G,G,λh=>absurd G h,pH (aM (bC G G G q0 (ab G G (ad ?_))))⟩;refine⟨G,(i3+1,UE),a05,?_,?_⟩
     ·exact⟨_,hM,S,gQ,g2,dO,nc,nj,by rw[b7,XO,dH,dM];exact rr,BL,by dsimp only;omega⟩
     ·dsimp only;omega
    ·refine cN (T.aP (eX (vs:=[vi,vs,rk,vl]) dp G Sw G G G g2 ?_));rw[bm q0]at rr;have hpa:RT.pa.V M _ (jq L) _:=aim (x:=jq L) (nc.close gX S (by show(L.map _).length<=_;rw[b9];omega)) (nj.close gX S (by show(L.map _).length<=_;rw[b9];omega)) (BL.le (nY gX S)) (rr.close gX S (by show((keysOf L).map _).length<=_;rw[b9];omega));replace S:=S.back;replace hM:=S.lt gX;refine aQ G G E52 (Hm (p:=jq L) _ hM hpa (SC hF q0)) (λr17 w17 hc=>?_);obtain⟨s17,acP,_⟩:=hc;obtain⟨sg,rfl,Ct⟩:=acP (XA fY q0);replace S:=S.av s17;refine cD G G G (cD G G G (aG G G (Rg.aZ G G (aI ?_))));exact fc G G G ⟨sg,G,Ct,S⟩
end Go.K
namespace Go.K
open Go.Proofs
set_option maxRecDepth 10000
theorem vT {id:Int}:∀(fs:List Fd) (i:Nat) (out:List Fd),nJ (id,out)=0->nJ (id,nL id i out fs)=0
 |[],_,_,h=>h
 |x::fs,i,out,h=>by
  unfold nL
  split
  ·split
   ·rename_i h1;exact vT fs _ _ h1
   ·exact vT fs _ _ h
  ·exact h
theorem oT {id:Int}:∀(fs:List Fd) (i:Nat) (out:List Fd),sm out->sm (nL id i out fs)
 |[],_,_,h=>h
 |x::fs,i,out,h=>by
  unfold nL
  split
  ·rename_i hi
   split
   ·exact oT fs _ _ (h.snoc (yZ x hi))
   ·exact oT fs _ _ h
  ·exact h
theorem KI (d:Dc):nJ (o6 d)=0:=vT d.2 0 [] rfl
theorem Fi (d:Dc):sm (o6 d).2:=oT d.2 0 [] (λx h=>by cases h)
theorem Fj {e:En}:∀{L:List En} {last:Int},BI last (L++[e])=(BI last L&&decide (nS (mR last L) e=0))
 |[],last=>by show(decide (nS last e=0)&&true)=(true&&decide (nS last e=0));rw[ly,dr]
 |x::L,last=>by rw[uK];show(decide (nS last x=0)&&BI x.2 (L++[e]))=(decide (nS last x=0)&&BI x.2 L&&decide (nS (mR x.2 L) e=0));rw[Fj (L:=L),Bool.and_assoc]
theorem zE {e:En}:∀{L:List En} {last:Int},mR last (L++[e])=e.2
 |[],_=>rfl
 |x::L,last=>by simp only[uK,mR];exact zE
theorem Fk (l:List Dc) {a s:Int} (ha:0<=a) (hs:1<=s):∀k,BI (-1) (iU l a s k)=true/\mR (-1) (iU l a s k)<a+s*(k:Int)
 |0=>⟨rfl,by show(-1:Int)<_;simp;omega⟩
 |k+1=>by
  obtain⟨h1,h2⟩:=Fk l ha hs k;have e1:a+s*((k+1:Nat):Int)=a+s*(k:Int)+s:=by rw[Int.natCast_add,Int.mul_add];simp;omega
  cases h:l[k]? with
  |none=>rw[zc (List.getElem?_eq_none_iff.1 h),e1];exact⟨h1,by omega⟩
  |some d=>
   rw[y9 h,Fj,zE,h1,e1]
   have:nS (mR (-1) (iU l a s k)) (o6 d,a+s*(k:Int))=0:=by
    unfold nS;rw[if_neg (λh=>h (KI d)),if_neg (by show¬(a+s*(k:Int)<=_);omega)]
   exact⟨by rw[this];rfl,by show a+s*(k:Int)<_;omega⟩
theorem BM {l:List Dc} {a s:Int}:∀{k:Nat} {e:En},e∈iU l a s k->∃d,e.1=o6 d
 |0,e,h=>by cases h
 |k+1,e,h=>by
  rw[iU]at h;rcases dw.1 h with h|h
  ·exact BM h
  ·split at h
   ·rename_i d _;rw[cW.1 h];exact⟨d,G⟩
   ·cases h
theorem zF {l:List Dc} {a s:Int} {k:Nat}:∀e∈iU l a s k,∀f∈e.1.2,f.1.length<=900000/\f.2.length<=900000:=λe he f hf=>by
 obtain⟨d,hd⟩:=BM he;rw[hd]at hf;have:=Fi d f hf;omega
end Go.K

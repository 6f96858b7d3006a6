/- What the law 'MatchParts' needs of walks and plain Lean, part 4: nothing is assumed beyond the texts that it imports. -/
import Derived.KernelRfl
import Derived.Laws.StructEq
import Derived.Test.YtaobajlebdchhaaGreatDoorProg
import Derived.Test.YtaobajlebdchhaaGreatDoorZMatchParts1
import Derived.Test.YtaobajlebdchhaaGreatDoorZMatchParts2
import Derived.Test.YtaobajlebdchhaaGreatDoorZMatchParts3
set_option linter.unusedVariables false
set_option linter.unusedSimpArgs false
namespace Go.K
open Go.Proofs
set_option maxRecDepth 10000
theorem DM {M:aP} {w0:World} {v:Value} {b:List UInt8} {n:Nat} (hM:Lt M w0) (hv:(RT.u8.sl).V M w0 b v) (hb:b.length<=70368744177664) (hn:n<=9223372036854775807):
  Spec Tryz.prog 194 #[v,.int .i64 n] w0 (λv' w'=>∃M',Step M w0 M' w' aH/\Own RT.u8 5 M' w' w0.heap.size v' (b++put n)):=by
 have h9:=lI hn;refine bD (args:=[_,_]) (fn:=Tryz.f194) Tryz.func194 G (n:=26) Tryz.ntmps194 (T.aU (Rg.a8 G G (T.aU (ab G G (ab G G ?_)))))
 first|refine bR b4 rfl VR rfl ?_|refine jD b4 rfl VR rfl ?_
 refine ab G G ?_
 first|refine bR b4 rfl VR rfl ?_|refine jD b4 rfl VR rfl ?_
 refine Rg.G8 b4 I5 G G G G hv ⟨G,G⟩ (λa kS uA=>?_);refine Rg.a8 G G (aQ (bp ?_));refine dz (σ:=Nat×Value×List UInt8) (λs=>[(0,s.2.1),(1,.int .i64 s.1)]) (λs w=>s.2.2++put s.1=b++put n/\∃M1,Lt M1 w/\Step M w0 M1 w aH/\Grow RT.u8 q0 5 M1 w w0.heap.size s.2.1 s.2.2) (λs=>s.1) (n,_,b) a83 ?_ ?_
 ·exact⟨G,M,hM,bg,.inr ⟨a,G,uA,kS⟩⟩
 ·rintro⟨k,u0,acc⟩ w1 ⟨By,M1,eD,s1,hg⟩;dsimp only at By hg ⊢;have hlen:=congrArg List.length By;have y9:=Sb k;simp only[bT]at hlen;refine aQ (T.aU (ab G G (cu G G G (ad ?_))));refine bH G (λc2=>?_) (λc2=>?_)
  ·refine aM (bp (T.aU (ab G G (ab G G (xS al dq G G (Rg.or G G G (aZ (congrArg _ (Tu _)) ?_)))))));refine dT (A:=RT.u8) (hn:=by decide) (M:=M1) b4 I5 q0 G G eD (V0.2 G) (.inr ⟨G,G⟩) (λu w2 hu s2=>?_);refine Rg.Jf (M:=M1) (base:=w0.heap.size) b4 I5 G G G G (hg.le s2) hu ck (by simp) a06 a06 (ch s1.size s2.size) (λv3 M3 w3 RG s3=>?_);refine Rg.a8 G G (ay (ab G G (Rg.shr G G G hV (aZ (congrArg _ (ajt _)) (Rg.a8 G G ?_)))));refine⟨G,(k/128,v3,acc++[UInt8.ofNat (128+k%128)]),a83,?_,?_⟩
   ·exact⟨by rw[<-By,Hj (n:=k) hV];simp,M3,s3.lt (s2.lt eD),(s1.ar s2).mJ s3 (aK _),.inl RG⟩
   ·show k/128<k;omega
  ·refine de (T.aU (ab G G (ab G G (xS al dq G G (aZ (congrArg _ (H4 _)) ?_)))));refine dT (A:=RT.u8) (hn:=by decide) (M:=M1) b4 I5 q0 G G eD (V0.2 G) (.inr ⟨G,G⟩) (λu w2 hu s2=>?_);refine Rg.Jf (M:=M1) (base:=w0.heap.size) b4 I5 G G G G (hg.le s2) hu ck (by simp) a06 a06 (ch s1.size s2.size) (λv3 M3 w3 RG s3=>?_);refine Rg.a8 G G (aS (aT G G ⟨M3,(s1.ar s2).mJ s3 (aK _),?_⟩));rw[<-By,zp (n:=k) hV];exact RG
theorem Pr {M:aP} {w0:World} {v:Value} {b:List UInt8} {n:Nat} (hM:Lt M w0) (hv:(RT.u8.sl).V M w0 b v) (hb:b.length<=70368744177664) (hn:n<=9223372036854775807):
  Spec Tryz.prog 194 #[v,.int .i64 n] w0 (λv' w'=>Step M w0 M w' aH/\(RT.u8.sl).V M w' (b++put n) v'):=
 (DM hM hv hb hn).mono λ_ _ ⟨_,s,ho⟩=>⟨s.back,kH hM s ho (by have:=lI hn;simp;omega)⟩
theorem FP {M:aP} {w0:World} {v:Value} {b:List UInt8} {at_:Int} (hv:(RT.u8.sl).V M w0 b v) (MC: -9223372036854775808<=at_/\at_<=9223372036854775807):
  Spec Tryz.prog 303 #[v,.int .i64 at_] w0 (λv' w'=>v'= .tuple #[.int .i64 (get b at_).1,.int .i64 (get b at_).2.1,.int .i64 (get b at_).2.2]/\w0=w'):=by
 have hlen:=dJ hv;refine bD (args:=[_,_]) (fn:=Tryz.f303) Tryz.func303 G (n:=54) Tryz.ntmps303 (T.aU (aJ G G (aJ G G (Rg.a8 G G (aQ (T.aU (ab G G (cH G G G ?_))))))));refine ab G G ?_;refine aB (g:=12) G (λja=>?_) (λja=>?_)
 ·obtain X3:at_<0\/(b.length:Int)<at_:= .inl ja;refine aj G G G G (aj G G G G (aj G G G G (aj G G G G (aN G G G (ad (iz G (T.aU (aJ G G (aJ G G (aJ G G ?_))))))))));refine ad (aS ?_);have jh:get b at_=(0,0,1):=by unfold get;rw[if_pos X3]
  exact sK rfl rfl rfl rfl ⟨by rw[jh],rfl⟩
 ·refine ae G G (ab G G (ae G G (ab G G (ae G G ?_))))
  first|refine bR b4 rfl VR rfl ?_|refine jD b4 rfl VR rfl ?_
  refine ae G G (fR G G G (au G G G (ad ?_)));refine bH G (λc1=>?_) (λc1=>?_)
  ·obtain X3:at_<0\/(b.length:Int)<at_:= .inr c1;refine T.aU (aJ G G (aJ G G (Rg.a8 G G (aS ?_))));have jh:get b at_=(0,0,1):=by unfold get;rw[if_pos X3]
   exact sK rfl rfl rfl rfl ⟨by rw[jh],rfl⟩
  ·refine aM (T.aU (Rg.a8 G G (aQ (T.aU (ab G G (ab G G (ab G G ?_)))))))
   first|refine bR b4 rfl VR rfl ?_|refine jD b4 rfl VR rfl ?_
   refine ab G G (aX G G G hV (Rg.min2 G G G ?_));refine Rg.MP b4 I5 G G G G hv hV (λu hu=>?_);rw[show(min (b.length:Int) (at_+9)).toNat=min b.length (at_.toNat+9)from by omega,Wr]at hu;have jh:get b at_=match oQ ((b.drop at_.toNat).take 9) 0 0 with|some (n,k)=>((n:Int),at_+k,0)|none=>(0,0,2):=by unfold get;rw[if_neg hV];rfl
   have uv:((b.drop at_.toNat).take 9).length<=9:=by rw[bI];omega
   generalize (b.drop at_.toNat).take 9=bs at hu jh uv
   first|refine bR b4 rfl VR rfl ?_|refine jD b4 rfl VR rfl ?_
   refine ab G G (ad (bp ?_));refine dz (σ:=Nat×Nat) (λs=>[(1,.int .i64 at_),(25,u),(26,.int .i64 bs.length),(27,.int .i64 s.1),(7,.int .i64 s.2)]) (λs w=>w0=w/\s.1<=bs.length/\s.2<128^s.1/\oQ (bs.drop s.1) s.1 s.2=oQ bs 0 0) (λs=>bs.length-s.1) (0,0) a74 ?_ ?_
   ·exact⟨rfl,bA _,by decide,rfl⟩
   ·rintro⟨k,m⟩ w1 ⟨rfl,hk,hm,hg⟩;dsimp only at hk hm hg ⊢;refine T.aU (cH G G G (ad (aQ ?_)));refine bH G (λc5=>?_) (λc5=>?_)
    ·refine aM (aQ (bp (T.aU (ab G G ?_))));refine cD (M:=M) b4 I5 G G G VR (by repeat (first|exact bB _ _|refine aW (bC VR) ?_)) hV (λass Tv FQ an6=>?_);refine Rg.V3 (M:=M) dq G G VR (by repeat (first|exact bB _ _|refine aW (bC VR) ?_)) ?_;refine aJ G G (Rg.a8 G G (T.aU (ab G G (ab G G (Rg.andNot G G G (aZ (congrArg _ (FO _)) (Rg.wO dq al G G hV (ab G G (Rg.V1 G G G hV ?_)))))))));refine Rg.shl G G G hV (Rg.or G G G (aZ (congrArg _ (Pq k m _ hV hm hV)) (Rg.a8 G G (T.aU (ab G G (cH G G G (ad ?_)))))));refine bH G (λc8=>?_) (λc8=>?_)
     ·refine aQ (T.aU (ab G G (je G G G (ab G G ?_))));refine aB (g:=44) G (λp6=>?_) (λp6=>?_)
      ·refine ae G G (ab G G (ae G G (fR G G G (aN G G G (ad ?_)))));refine bH G (λc9=>?_) (λc9=>?_)
       ·refine de (T.aU (aJ G G (aJ G G (Rg.a8 G G (aS ?_)))))
        have hr:oQ bs 0 0=none:=by
         rw[<-hg]
         first
         |(rw[oR (by simpa using FQ),if_pos hV,if_pos hV])
         |(rw[fV hV];rfl)
        exact sK rfl rfl rfl rfl ⟨by rw[jh,hr],rfl⟩
       ·refine aM (T.aU (ab G G (ab G G (ab G G (aX G G G hV (aX G G G hV (aJ G G (aJ G G (Rg.a8 G G ?_)))))))));refine aS ?_;have hr:oQ bs 0 0=some (m+Tv.toNat%128*128^k,k+1):=by rw[<-hg,oR (by simpa using FQ),if_pos hV,if_neg hV]
        exact sK rfl rfl rfl rfl ⟨by rw[jh,hr];simp;omega,rfl⟩
      ·refine aj G G G G (aj G G G G (au G G G (ad (fQ G (aM (T.aU (ab G G (ab G G (ab G G (aX G G G hV ?_))))))))));refine aX G G G hV (aJ G G (aJ G G (Rg.a8 G G (aS ?_))));have hr:oQ bs 0 0=some (m+Tv.toNat%128*128^k,k+1):=by rw[<-hg,oR (by simpa using FQ),if_pos hV,if_neg hV]
       exact sK rfl rfl rfl rfl ⟨by rw[jh,hr];simp;omega,rfl⟩
     ·refine aM (ay (aX G G G hV (ab G G (ad ?_))));refine⟨G,(k+1,m+Tv.toNat%128*128^k),a74,?_,?_⟩
      ·refine⟨rfl,by simp only;omega,?_,?_⟩
       ·have:=Nat.mul_le_mul_right (128^k) (show Tv.toNat%128<=127 from by omega);simp only[Nat.pow_succ];omega
       ·rw[oR (by simpa using FQ),if_neg hV]at hg;exact hg
      ·simp only;omega
    ·refine de (T.aU (aJ G G (aJ G G (Rg.a8 G G (aS ?_)))))
     have hr:oQ bs 0 0=none:=by
      rw[<-hg]
      first
      |(rw[oR (by simpa using FQ),if_pos hV,if_pos hV])
      |(rw[fV hV];rfl)
     exact sK rfl rfl rfl rfl ⟨by rw[jh,hr],rfl⟩
theorem BP {M:aP} {w0:World} {v u:Value} {b:List UInt8} {l:List Int} (hM:Lt M w0) (hv:(RT.u8.sl).V M w0 b v) (hu:((RT.int .i64).sl).V M w0 l u) (hb:b.length+9*(l.length+1)<=70368744177664):
  Spec Tryz.prog 195 #[v,u] w0 (λv' w'=>∃M' x,Step M w0 M' w' aH/\v'= .tuple #[x,.int .i64 (if gw (-1) l then 0 else 1)]/\Own RT.u8 5 M' w' w0.heap.size x (if gw (-1) l then b++eV l else[])):=by
 have yN:=lI (n:=l.length) hV;refine bD (args:=[_,_]) (fn:=Tryz.f195) Tryz.func195 G (n:=31) Tryz.ntmps195 (T.aU (aJ G G (Rg.a8 G G (T.aU (ab G G (ab G G (bR aC G hu G ?_)))))));refine aV G G WK (DM (M:=M) hM hv hV hV) (λub wb yv=>?_);obtain⟨Mb,sb,ie⟩:=yv;refine Rg.a8 G G (T.aU (Rg.a8 G G (aQ (T.aU (ab G G (bR aC G hu G (ab G G ?_)))))));refine ad (bp ?_);refine dz (σ:=Nat×Int×Value×List UInt8) (λs=>[(0,s.2.2.1),(6,.int .i64 s.2.1),(13,u),(14,.int .i64 l.length),(15,.int .i64 s.1)]) (λs w=>gw (-1) l=gw s.2.1 (l.drop s.1)/\(gw (-1) l=true->s.2.2.2++l9 s.2.1 (l.drop s.1)=b++eV l)/\s.1<=l.length/\ -1<=s.2.1/\s.2.2.2.length<=b.length+9*(s.1+1)/\∃M1,Lt M1 w/\Step M w0 M1 w aH/\Own RT.u8 5 M1 w w0.heap.size s.2.2.1 s.2.2.2) (λs=>l.length-s.1) (0,-1,_,b++put l.length) a74 ?_ ?_
 ·exact⟨rfl,λ_=>by simp[eV],bA _,by simp only;omega,by simp;omega,Mb,sb.lt hM,sb,ie⟩
 ·rintro⟨k,last,u0,acc⟩ w1 ⟨hr,By,hk,Tt,hal,M1,eD,s1,ho⟩;dsimp only at hr By hk Tt hal ho ⊢;refine T.aU (cH G G G (ad (aQ ?_)));refine bH G (λc4=>?_) (λc4=>?_)
  ·refine aM (aQ (bp (T.aU ?_)));obtain⟨x,hx⟩:∃x,l[k]? =some x:=⟨_,aq hV⟩;have hxr:=MO hu hx;refine cD aC I3 G G G (hu.le (s1.back).le) ck hV (λacy Ps acz JR=>?_);obtain rfl:Ps=x:=aG (acz.symm.trans af5);refine bX al G G JR ck (λ_=>?_);refine Rg.a8 G G (aQ (T.aU (ab G G (ab G G (gr G G G (ad ?_))))));refine bH G (λc6=>?_) (λc6=>?_)
   ·refine T.aU (aJ G G (Rg.a8 G G (aS ?_)));have hrf:gw (-1) l=false:=by rw[hr,gK hx,decide_eq_false hV,eT]
    exact fk rfl rfl rfl ⟨M1,_,s1,by rw[hrf];rfl,by rw[hrf];exact ep _ _ _ _ _⟩
   ·refine aM (T.aU (ab G G (ab G G (ab G G (Rg.V2 G G G (Rg.V2 G G G ?_))))));have hpx:=lI (n:=(Ps-last-1).toNat) hV;refine aZ (v':= .int .i64 (((Ps-last-1).toNat:Nat):Int)) (by rw[IntKind.wrap_i64,IntKind.wrap_i64];congr 1;omega) ?_;have hfz:=s1.freeze (v:=u0) (λb hb=>(ho.base b hb).1);refine aV G G WK (DM (M:=rm M1 u0) (eD.rm u0) (ho.view hV) hV hV) (λub wb yv=>?_);obtain⟨Mb2,Vb,aju⟩:=yv;refine Rg.a8 G G (ay (ab G G (Rg.a8 G G (ay (aX G G G hV (ab G G (ad ?_)))))));refine⟨G,(k+1,Ps,ub,acc++put (Ps-last-1).toNat),a74,?_,?_⟩
    ·refine⟨?_,λh=>?_,by simp only;omega,by simp only;omega,by simp only[bT];omega,Mb2,Vb.lt (eD.rm u0),hfz.ar Vb,aju.jv s1.size⟩
     ·rw[hr,gK hx,decide_eq_true hV,dF]
     ·rw[<-By h,KD hx];simp
    ·simp only;omega
  ·refine de (T.aU (ab G G (aJ G G (Rg.a8 G G (aS ?_)))));have hrt:gw (-1) l=true:=by rw[hr,fV hV];rfl
   have ha:=By hrt;rw[fV hV,l9,bz]at ha;exact fk rfl rfl rfl ⟨M1,_,s1,by rw[hrt];rfl,by rw[hrt,<-ha];exact ho⟩
theorem As {M:aP} {w0:World} {v u:Value} {b:List UInt8} {l:List Int} (hM:Lt M w0) (hv:(RT.u8.sl).V M w0 b v) (hu:((RT.int .i64).sl).V M w0 l u) (hb:b.length+9*(l.length+1)<=70368744177664):
  Spec Tryz.prog 195 #[v,u] w0 (λv' w'=>∃x,Step M w0 M w' aH/\v'= .tuple #[x,.int .i64 (if gw (-1) l then 0 else 1)]/\(RT.u8.sl).V M w' (if gw (-1) l then b++eV l else[]) x):=
 (BP hM hv hu hb).mono λ_ _ ⟨_,x,s,h,ho⟩=>⟨x,s.back,h,kH hM s ho (by
  split
  next hr=>
   have yN:=lI (n:=l.length) hV;have iR:∀x∈l,x<=9223372036854775807:=λx hx=>by obtain⟨i,hi⟩:=bQ.1 hx;exact(MO hu hi).2
   have:=zq l (-1) q0 iR hr;simp only[eV,bT];omega
  next=>simp)⟩
theorem CA {M:aP} {w0:World} {be bb ba:Nat} {v:Value} {b:List UInt8} {at_:Int} (he:w0.heap[be]? =some (.cells #[.int .i64 0] 32 (0,0))) (hb:w0.heap[bb]? =some (.cells #[v] 293 (0,0))) (ha:w0.heap[ba]? =some (.cells #[.int .i64 at_] 3 (0,0))) (fB:be≠ba) (X4:M be) (MD:M ba) (hv:(RT.u8.sl).V M w0 b v) (MC: -9223372036854775808<=at_/\at_<=9223372036854775807):
  Spec Tryz.prog 316 #[.pointer (some ⟨be,0,none⟩),.pointer (some ⟨bb,0,none⟩),.pointer (some ⟨ba,0,none⟩)] w0 (λv' w'=>v'= .int .i64 (get b at_).1/\w'.heap[be]? =some (.cells #[.int .i64 (get b at_).2.2] 32 (0,0))/\w'.heap[ba]? =some (.cells #[.int .i64 (get b at_).2.1] 3 (0,0))/\Step M w0 M w' (λk=>k=be\/k=ba)):=by
 refine bD (args:=[_,_,_]) (fn:=Tryz.f316) Tryz.func316 G (n:=15) Tryz.ntmps316 (T.aU (Rg.a8 G G (aQ (T.aU (aR xT G G G VR G (fG G G G (ad ?_)))))));refine bH G (λc1=>?_) (λc1=>?_)
 ·exact absurd G c1
 ·refine aM (T.aU (Rg.a8 G G (T.aU (aR b4 G G G VR G (aR al G G G VR G ?_)))));refine aV G G aa8 (FP hv MC) (λr w1 h1=>?_);obtain⟨rfl,rfl⟩:=h1;refine ab G G (cP G G G (cP G G G (cP G G G (aJ G G ?_))));refine cA (M:=M) I3 G G ha G G MD (λw1 h1 s1=>?_);refine cA (M:=M) I32 G G (s1.bY he fB) G G X4 (λw2 h2 s2=>?_);refine ad (T.aU (ab G G (Rg.a8 G G (aS (aT G G ⟨G,h2,s2.bY h1 (Ne.symm fB),?_⟩)))));exact(s1.eE (λb hb=> .inr hb) (λb hb=>by rcases hb with rfl|rfl<;>assumption)).trans s2 (λb _ hb=> .inl hb)
theorem Au {M:aP} {w0:World} {v:Value} {b:List UInt8} {at_:Int} (hM:Lt M w0) (hv:(RT.u8.sl).V M w0 b v) (MC: -9223372036854775808<=at_/\at_<=9223372036854775807) (uv:b.length<=1099511627776):
  Spec Tryz.prog 304 #[v,.int .i64 at_] w0 (λv' w'=>∃x,v'= .tuple #[x,.int .i64 (gY b at_).2.2,.int .i64 (gY b at_).1]/\((RT.int .i64).sl).V M w' (gY b at_).2.1 x/\Step M w0 M w' aH):=by
 refine bD (args:=[_,_]) (fn:=Tryz.f304) Tryz.func304 G (n:=48) Tryz.ntmps304 (T.aU ?_);refine qu M G G (λbb w1 NK asu hB s1=>?_);rw[ic hv]at hB;refine qu (ins M bb) G G (λba w2 hba asv hA s2=>?_);refine aJ G G (aJ G G (Rg.a8 G G (T.aU ?_)));refine eu (ins (ins M bb) ba) I32 G (λbe w3 Vc asw hE s3=>?_);refine cA (M:=ins (ins (ins M bb) ba) be) I32 G G hE G G (.inl G) (λw4 hE4 s4=>?_);have z1:=s1.size;have z2:=s2.size;have z3:=s3.size;have z4:=s4.size;have S4:Step M w0 (ins (ins (ins M bb) ba) be) w4 aH:=((s1.ar s2).ar s3).cE s4 (λk hk=>by subst hk;omega);have hB4:=s4.bY (s3.aF (s2.aF hB)) (show bb≠be by omega);have hA4:=s4.bY (s3.aF hA) (show ba≠be by omega);refine ad (T.aU (jQ (xs:=[]) G G G (Rg.a8 G G (T.aU (Rg.a8 G G (T.aU ?_))))));refine Rg.a8 G G (aQ (T.aU (ab G G ?_)));refine wJ (first:=[]) (xs:=[]) G G G aa9 (CA (M:=ins (ins (ins M bb) ba) be) hE4 hB4 hA4 hV (.inl G) (.inr (.inl G)) (hv.le S4.le) MC) (λr w5 h5=>?_);obtain⟨rfl,hE5,hA5,s5⟩:=h5;have z5:=s5.size;have S5:=S4.cE s5 (λk hk=>by omega);have hB5:=s5.bY hB4 hV;obtain⟨hn0,hn1,hn2,hn3⟩:=pG b at_;refine aZ (v':= .int .i64 (((get b at_).1.toNat:Nat):Int)) (by rw[Bn hn0]) (Rg.a8 G G (bp ?_));refine dz (σ:=Nat×Int×Value×List Int×Int×Int) (λs=>[(7,.pointer (some ⟨be,0,none⟩)),(3,.pointer (some ⟨ba,0,none⟩)),(8,.func (.func 316) [].toArray [.pointer (some ⟨be,0,none⟩),.pointer (some ⟨bb,0,none⟩),.pointer (some ⟨ba,0,none⟩)].toArray),(9,s.2.2.1),(10,.int .i64 s.2.1),(11,.int .i64 s.1)]) (λs w=>(s.1:Int)<=9223372036854775807/\(s.2.2.2.2.1=0->gY b at_=andThen s.2.2.2.1 (iU b s.1 s.2.2.2.2.2 s.2.1))/\(s.2.2.2.2.1≠0->gY b at_=(s.2.2.2.2.1,[],0))/\(s.2.2.2.2.1=0-> -1<=s.2.1/\s.2.1<=4611686018427387904/\(s.2.2.2.1.length:Int)<=s.2.2.2.2.2/\s.2.2.2.2.2<=b.length)/\s.2.2.2.1.length<=b.length+1/\∃M1,Lt M1 w/\Step M w0 M1 w aH/\w4.heap.size<=w.heap.size/\M1 be/\M1 ba/\Own (RT.int .i64) 3 M1 w w4.heap.size s.2.2.1 s.2.2.2.1/\w.heap[be]? =some (.cells #[.int .i64 s.2.2.2.2.1] 32 (0,0))/\w.heap[ba]? =some (.cells #[.int .i64 s.2.2.2.2.2] 3 (0,0))/\w.heap[bb]? =some (.cells #[v] 293 (0,0))) (λs=>s.1) ((get b at_).1.toNat,-1,_,[],(get b at_).2.2,(get b at_).2.1) a04 ?_ ?_
 ·refine⟨by have:=Ca b at_;simp only;omega,λh=>?_,λh=>?_,λh=>?_,by simp,_,S5.lt hM,S5,z5,.inl rfl,.inr (.inl rfl),ep _ _ _ _ _,hE5,hA5,hB5⟩
  ·unfold gY;rw[if_neg a84];exact(Ey _ (KE b _ _ _)).symm
  ·unfold gY;rw[if_pos h]
  ·have:=wZ h;simp only[ko];omega
 ·rintro⟨many,last,u0,acc,e,a1⟩ wl ⟨hmb,Vd,ZU,fh,hal,M1,eD,S,zl,X4,MD,ho,hE,hA,hB⟩;dsimp only at hmb Vd ZU fh hal ho hE hA hB ⊢;refine aQ (T.aU (ab G G (fR G G G (ab G G ?_))));refine aB (g:=18) G (λWT=>?_) (λWT=>?_)
  ·refine ae G G (aR xT G G G VR G (ae G G (je G G G (aN G G G (ad ?_)))));refine bH G (λc6=>?_) (λc6=>?_)
   ·refine aM (aQ (bp (T.aU (ab G G ?_))));refine wJ (first:=[]) (xs:=[]) rfl rfl rfl aa9 (CA (M:=M1) (by rw[c6]at hE;exact hE) hB hA hV X4 MD (hv.le S.le) (by have:=fh c6;omega)) (λr w6 h6=>?_);obtain⟨rfl,hE6,JS,s6⟩:=h6;have z6:=s6.size;have S6:=S.cE s6 (λk hk=>by omega);have JT:=s6.bY hB hV;have ia:=ho.step s6 (λk hk h=>by have:=(ho.base k hk).1;omega);have Pt:=s6.lt eD;obtain⟨hn0,hn1,hn2,hn3⟩:=pG b a1;obtain⟨fg,fC,hk3,hk4⟩:=fh c6;refine Rg.a8 G G (aQ (T.aU (aR xT G G G VR G (je G G G (ab G G ?_)))));refine aB (g:=28) G (λp6=>?_) (λp6=>?_)
    ·refine ae G G (ab G G (ae G G (ab G G (ae G G (iQ G G G hV (ae G G (iQ G G G hV (ae G G (fR G G G (aN G G G (ad ?_)))))))))));refine bH G (λc9=>?_) (λc9=>?_)
     ·refine ay ?_;refine cA (M:=M1) I32 G G hE6 G G X4 (λw7 hE7 s7=>?_);have z7:=s7.size;replace S6:=S6.cE s7 (λk hk=>by subst hk;omega);replace JT:=s7.bY JT (show bb≠be by omega);replace JS:=s7.bY JS (show ba≠be by omega);replace ia:=ia.step s7 (λk hk h=>by have:=(ho.base k hk).1;omega);replace Pt:=s7.lt Pt;replace hE6:=hE7;refine ad (T.aU (ab G G (ab G G (Rg.zc G G G (Rg.zc G G G (Rg.a8 G G (ay (ab G G (ab G G ?_)))))))));refine dT (A:=RT.int .i64) (hn:=by decide) (M:=M1) aC I3 q0 G G Pt (iF (tX _)) (.inr ⟨G,G⟩) (λu w8 hu s8=>?_);refine cI (M:=M1) (base:=w4.heap.size) aC I3 rfl rfl rfl rfl (ia.br s8) hu ck a06 a06 (by have:=s8.size;omega) (λv9 M9 w9 ho9 s9=>?_);have z8:=s8.size;have z9:=s9.size;have ka:∀k,k<w4.heap.size->¬nJ u0 k:=λk hk h=>by have:=(ho.base k h).1;omega
      have Pu:=s9.bY (s8.aF hE6) (ka be hV);have hA9:=s9.bY (s8.aF JS) (ka ba hV);have hB9:=s9.bY (s8.aF JT) (ka bb hV);have S9:=(S6.ar s8).cf s9 (ia.br s8) hV;have hM9:=s9.lt (s8.lt Pt);have Pv:M9 be:=(s9.mem be hV).2 X4;have Pw:M9 ba:=(s9.mem ba hV).2 MD;refine Rg.a8 G G (ay (ab G G (iQ G G G hV (Rg.a8 G G ?_))));refine⟨G,(many-1,(IntKind.i64.wrap (last+IntKind.i64.wrap ((get b a1).1+1))),v9,acc++[(IntKind.i64.wrap (last+IntKind.i64.wrap ((get b a1).1+1)))],(if(get b a1).2.2=0/\4611686018427387904-last-1<(get b a1).1 then 2 else(get b a1).2.2),(get b a1).2.1),a48,?_,?_⟩
      ·have hx:(get b a1).2.2=0->¬4611686018427387904-last-1<(get b a1).1->(IntKind.i64.wrap (last+IntKind.i64.wrap ((get b a1).1+1)))=last+1+(get b a1).1:=λh1 h2=>by rw[jC ((get b a1).1+1) hV,jC _ hV];omega
       have Ha:many=(many-1)+1:=by omega
       have Av:=Vd c6;rw[Ha]at Av;refine⟨by simp only;omega,λh=>?_,λh=>?_,λh=>?_,by have:=fh c6;simp only[bT,cR,ko];omega,M9,hM9,S9,by omega,Pv,Pw,ho9,?_,hA9,hB9⟩
       ·dsimp only at h ⊢;have h3:(get b a1).2.2=0/\¬4611686018427387904-last-1<(get b a1).1:=by split at h<;>omega
        rw[Av,pF acc h3.1 h3.2,hx h3.1 h3.2]
       ·dsimp only at h ⊢;rw[Av]
        split
        ·rename_i h4;rw[xc h4.1 h4.2];rfl
        ·rename_i h4
         have h5:(get b a1).2.2≠0:=by intro h6;rw[if_neg h4]at h;exact h h6
         rw[tF h5];unfold andThen;rw[if_pos h5]
       ·dsimp only at h ⊢;have h3:(get b a1).2.2=0/\¬4611686018427387904-last-1<(get b a1).1:=by split at h<;>omega
        have:=wZ h3.1;rw[hx h3.1 h3.2];simp only[bT,cR,ko];omega
       ·dsimp only
        first
        |(rw[if_pos ⟨p6,c9⟩];exact Pu)
        |(rw[if_neg (λh=>c9 h.2)];exact Pu)
        |(rw[if_neg (λh=>p6 h.1)];exact Pu)
      ·simp only;omega
     ·refine aM (T.aU (ab G G (ab G G (Rg.zc G G G (Rg.zc G G G (Rg.a8 G G (ay (ab G G (ab G G ?_)))))))));refine dT (A:=RT.int .i64) (hn:=by decide) (M:=M1) aC I3 q0 G G Pt (iF (tX _)) (.inr ⟨G,G⟩) (λu w8 hu s8=>?_);refine cI (M:=M1) (base:=w4.heap.size) aC I3 rfl rfl rfl rfl (ia.br s8) hu ck a06 a06 (by have:=s8.size;omega) (λv9 M9 w9 ho9 s9=>?_);have z8:=s8.size;have z9:=s9.size;have ka:∀k,k<w4.heap.size->¬nJ u0 k:=λk hk h=>by have:=(ho.base k h).1;omega
      have Pu:=s9.bY (s8.aF hE6) (ka be hV);have hA9:=s9.bY (s8.aF JS) (ka ba hV);have hB9:=s9.bY (s8.aF JT) (ka bb hV);have S9:=(S6.ar s8).cf s9 (ia.br s8) hV;have hM9:=s9.lt (s8.lt Pt);have Pv:M9 be:=(s9.mem be hV).2 X4;have Pw:M9 ba:=(s9.mem ba hV).2 MD;refine Rg.a8 G G (ay (ab G G (iQ G G G hV (Rg.a8 G G ?_))));refine⟨G,(many-1,(IntKind.i64.wrap (last+IntKind.i64.wrap ((get b a1).1+1))),v9,acc++[(IntKind.i64.wrap (last+IntKind.i64.wrap ((get b a1).1+1)))],(if(get b a1).2.2=0/\4611686018427387904-last-1<(get b a1).1 then 2 else(get b a1).2.2),(get b a1).2.1),a48,?_,?_⟩
      ·have hx:(get b a1).2.2=0->¬4611686018427387904-last-1<(get b a1).1->(IntKind.i64.wrap (last+IntKind.i64.wrap ((get b a1).1+1)))=last+1+(get b a1).1:=λh1 h2=>by rw[jC ((get b a1).1+1) hV,jC _ hV];omega
       have Ha:many=(many-1)+1:=by omega
       have Av:=Vd c6;rw[Ha]at Av;refine⟨by simp only;omega,λh=>?_,λh=>?_,λh=>?_,by have:=fh c6;simp only[bT,cR,ko];omega,M9,hM9,S9,by omega,Pv,Pw,ho9,?_,hA9,hB9⟩
       ·dsimp only at h ⊢;have h3:(get b a1).2.2=0/\¬4611686018427387904-last-1<(get b a1).1:=by split at h<;>omega
        rw[Av,pF acc h3.1 h3.2,hx h3.1 h3.2]
       ·dsimp only at h ⊢;rw[Av]
        split
        ·rename_i h4;rw[xc h4.1 h4.2];rfl
        ·rename_i h4
         have h5:(get b a1).2.2≠0:=by intro h6;rw[if_neg h4]at h;exact h h6
         rw[tF h5];unfold andThen;rw[if_pos h5]
       ·dsimp only at h ⊢;have h3:(get b a1).2.2=0/\¬4611686018427387904-last-1<(get b a1).1:=by split at h<;>omega
        have:=wZ h3.1;rw[hx h3.1 h3.2];simp only[bT,cR,ko];omega
       ·dsimp only
        first
        |(rw[if_pos ⟨p6,c9⟩];exact Pu)
        |(rw[if_neg (λh=>c9 h.2)];exact Pu)
        |(rw[if_neg (λh=>p6 h.1)];exact Pu)
      ·simp only;omega
    ·refine aj G G G G (aj G G G G (aj G G G G (aj G G G G (aj G G G G (au G G G (ad (fQ G (aM (T.aU (ab G G ?_))))))))));refine ab G G (Rg.zc G G G (Rg.zc G G G (Rg.a8 G G (ay (ab G G (ab G G ?_))))));refine dT (A:=RT.int .i64) (hn:=by decide) (M:=M1) aC I3 q0 G G Pt (iF (tX _)) (.inr ⟨G,G⟩) (λu w8 hu s8=>?_);refine cI (M:=M1) (base:=w4.heap.size) aC I3 rfl rfl rfl rfl (ia.br s8) hu ck a06 a06 (by have:=s8.size;omega) (λv9 M9 w9 ho9 s9=>?_);have z8:=s8.size;have z9:=s9.size;have ka:∀k,k<w4.heap.size->¬nJ u0 k:=λk hk h=>by have:=(ho.base k h).1;omega
     have Pu:=s9.bY (s8.aF hE6) (ka be hV);have hA9:=s9.bY (s8.aF JS) (ka ba hV);have hB9:=s9.bY (s8.aF JT) (ka bb hV);have S9:=(S6.ar s8).cf s9 (ia.br s8) hV;have hM9:=s9.lt (s8.lt Pt);have Pv:M9 be:=(s9.mem be hV).2 X4;have Pw:M9 ba:=(s9.mem ba hV).2 MD;refine Rg.a8 G G (ay (ab G G (iQ G G G hV (Rg.a8 G G ?_))));refine⟨G,(many-1,(IntKind.i64.wrap (last+IntKind.i64.wrap ((get b a1).1+1))),v9,acc++[(IntKind.i64.wrap (last+IntKind.i64.wrap ((get b a1).1+1)))],(if(get b a1).2.2=0/\4611686018427387904-last-1<(get b a1).1 then 2 else(get b a1).2.2),(get b a1).2.1),a48,?_,?_⟩
     ·have hx:(get b a1).2.2=0->¬4611686018427387904-last-1<(get b a1).1->(IntKind.i64.wrap (last+IntKind.i64.wrap ((get b a1).1+1)))=last+1+(get b a1).1:=λh1 h2=>by rw[jC ((get b a1).1+1) hV,jC _ hV];omega
      have Ha:many=(many-1)+1:=by omega
      have Av:=Vd c6;rw[Ha]at Av;refine⟨by simp only;omega,λh=>?_,λh=>?_,λh=>?_,by have:=fh c6;simp only[bT,cR,ko];omega,M9,hM9,S9,by omega,Pv,Pw,ho9,?_,hA9,hB9⟩
      ·dsimp only at h ⊢;have h3:(get b a1).2.2=0/\¬4611686018427387904-last-1<(get b a1).1:=by split at h<;>omega
       rw[Av,pF acc h3.1 h3.2,hx h3.1 h3.2]
      ·dsimp only at h ⊢;rw[Av]
       split
       ·rename_i h4;rw[xc h4.1 h4.2];rfl
       ·rename_i h4
        have h5:(get b a1).2.2≠0:=by intro h6;rw[if_neg h4]at h;exact h h6
        rw[tF h5];unfold andThen;rw[if_pos h5]
      ·dsimp only at h ⊢;have h3:(get b a1).2.2=0/\¬4611686018427387904-last-1<(get b a1).1:=by split at h<;>omega
       have:=wZ h3.1;rw[hx h3.1 h3.2];simp only[bT,cR,ko];omega
      ·dsimp only
       first
       |(rw[if_pos ⟨p6,c9⟩];exact Pu)
       |(rw[if_neg (λh=>c9 h.2)];exact Pu)
       |(rw[if_neg (λh=>p6 h.1)];exact Pu)
     ·simp only;omega
   ·refine de (aQ (T.aU (aR xT G G G VR G (fG G G G (ad ?_)))));refine bH G (λBI=>?_) (λBI=>?_)
    ·refine aQ ?_;apply Bw mixed rfl rfl;intro XY Pk;have sG:=Pk M1;refine aR xT G G G (by first|assumption|exact cp sG VR) G (Rg.dI (aJ G G (Rg.dI (aJ G G (Rg.dI (aJ G G (Rg.dI (gV (aS ?_)))))))));have hr:=ZU BI;exact sK rfl rfl rfl rfl ⟨_,by rw[hr]<;>rfl,by rw[hr];exact ib,(S.ar sG).back⟩
    ·refine aM (aQ ?_);apply Bw mixed rfl rfl;intro X5 Px;have qI:=Px M1;refine ab G G (Rg.dI (aR al G G G (by first|assumption|exact cp qI VR) G (Rg.dI (aJ G G (Rg.dI (aJ G G (Rg.dI (aJ G G (Rg.dI (gV (aS ?_)))))))))));have hz:many=0:=by omega
     have hr:=Vd hV;rw[hz,zr]at hr;simp only[andThen,ne_eq,not_true_eq_false,if_false,bz]at hr;have S15:=S.ar qI;refine sK rfl rfl rfl rfl ⟨_,by rw[hr]<;>rfl,?_,S15.back⟩;rw[hr];exact kH hM S15 ((ho.br qI).jv hV) an7
  ·refine aj G G G G (aj G G G G (au G G G (ad (fQ G (de (aQ (T.aU (aR xT G G G VR G (fG G G G (ad ?_))))))))));refine bH G (λBI=>?_) (λBI=>?_)
   ·refine aQ ?_;apply Bw mixed rfl rfl;intro XY Pk;have sG:=Pk M1;refine aR xT G G G (by first|assumption|exact cp sG VR) G (Rg.dI (aJ G G (Rg.dI (aJ G G (Rg.dI (aJ G G (Rg.dI (gV (aS ?_)))))))));have hr:=ZU BI;exact sK rfl rfl rfl rfl ⟨_,by rw[hr]<;>rfl,by rw[hr];exact ib,(S.ar sG).back⟩
   ·refine aM (aQ ?_);apply Bw mixed rfl rfl;intro X5 Px;have qI:=Px M1;refine ab G G (Rg.dI (aR al G G G (by first|assumption|exact cp qI VR) G (Rg.dI (aJ G G (Rg.dI (aJ G G (Rg.dI (aJ G G (Rg.dI (gV (aS ?_)))))))))));have hz:many=0:=by omega
    have hr:=Vd hV;rw[hz,zr]at hr;simp only[andThen,ne_eq,not_true_eq_false,if_false,bz]at hr;have S15:=S.ar qI;refine sK rfl rfl rfl rfl ⟨_,by rw[hr]<;>rfl,?_,S15.back⟩;rw[hr];exact kH hM S15 ((ho.br qI).jv hV) an7
theorem JU {M:aP} {w0:World} {v:Value} {x:Li} (hv:dp RT.li M w0 v x) {k:Int}:
  Spec Tryz.prog 272 #[v,.int .i64 k] w0 (λv' w'=>v'= .bool (No x.2.1.length k)/\w0=w'):=by
 refine bD (args:=[_,_]) (fn:=Tryz.f272) Tryz.func272 G (n:=16) Tryz.ntmps272 (T.aU (Rg.a8 G G (T.aU (ab G G (cu G G G (ab G G ?_))))));refine aB (g:=7) G (λja=>?_) (λja=>?_)
 ·refine ae G G (ab G G (ae G G (ab G G (ae G G (bu G (dp.mS VR) G (ae G G ?_))))));refine aw (M:=M) (A:=RT.li) (B:=(RT.bl).sl) ez G G Ho q0 (li1) G G q0 VR (by repeat (first|exact bB _ _|refine aW (bC VR) ?_)) (λasD aoc=>?_);refine ae G G ?_;refine bV (M:=M) fu G G G G G VR (by repeat (first|exact bB _ _|refine aW (bC VR) ?_)) (λacG Py=>?_);refine ae G G ?_
  first|refine bR fu rfl VR rfl ?_|refine jD fu rfl VR rfl ?_
  refine ae G G (cH G G G (aN G G G (Rg.a8 G G (aS ?_))))
  first
  |exact a69
  |exact a68
 ·refine aj G G G G (aj G G G G (aj G G G G (aj G G G G (aj G G G G (aj G G G G (aj G G G G (au G G G (Rg.a8 G G (aS ?_)))))))))
  first
  |exact a69
  |exact a68
theorem nY {M:aP} {w0:World} {v:Value} {x:Li} (hv:dp RT.li M w0 v x):
  Spec Tryz.prog 221 #[v] w0 (λv' w'=>v'= .int .i64 x.2.1.length/\w0=w'):=by
 refine bD (args:=[_]) (fn:=Tryz.f221) Tryz.func221 G (n:=8) Tryz.ntmps221 (T.aU (Rg.a8 G G (T.aU (ab G G (bu G (dp.mS VR) G ?_)))));refine aw (M:=M) (A:=RT.li) (B:=(RT.bl).sl) ez G G Ho q0 (li1) G G q0 VR (by repeat (first|exact bB _ _|refine aW (bC VR) ?_)) (λXH FC=>?_);refine bV (M:=M) fu G G G G G VR (by repeat (first|exact bB _ _|refine aW (bC VR) ?_)) (λXI JO=>?_)
 first|refine bR fu rfl VR rfl ?_|refine jD fu rfl VR rfl ?_
 refine Rg.a8 G G (aS ?_);exact ao2
theorem Lr {M:aP} {w0:World} {v:Value} {x:Li} (hv:dp RT.li M w0 v x) {k:Int}:
  Spec Tryz.prog 222 #[v,.int .i64 k] w0 (λv' w'=>v'= .int .i64 (Ez x.2.1 k)/\w0=w'):=by
 refine bD (args:=[_,_]) (fn:=Tryz.f222) Tryz.func222 G (n:=17) Tryz.ntmps222 (T.aU (Rg.a8 G G (aQ (T.aU (ab G G (ab G G ?_))))));refine aV G G aa7 (JU hv (k:=k)) (λr w1 h1=>?_);obtain⟨rfl,rfl⟩:=h1;refine jd G G (aZ (v':= .bool (decide (¬(0<=k/\k<x.2.1.length)))) (by unfold No;rw[decide_not]) (ad ?_));refine bH G (λc1=>?_) (λc1=>?_)
 ·refine T.aU (Rg.a8 G G (aS ?_));exact aT G G ⟨by unfold Ez No;rw[if_neg (by simpa using c1)],rfl⟩
 ·refine aM (T.aU (ab G G (bu G (dp.mS VR) G ?_)));refine aw (M:=M) (A:=RT.li) (B:=(RT.bl).sl) ez G G Ho q0 (li1) G G q0 VR (by repeat (first|exact bB _ _|refine aW (bC VR) ?_)) (λSR Ag=>?_);refine bV (M:=M) fu G G G G G VR (by repeat (first|exact bB _ _|refine aW (bC VR) ?_)) (λacH Ve=>?_);refine ab G G ?_;obtain⟨b,hb⟩:∃b,x.2.1[k.toNat]? =some b:=⟨_,aq hV⟩;refine cD fu BE G G G VR ck hV (λTx X6 Pz JV=>?_);obtain rfl:X6=b:=aG (Pz.symm.trans hb);refine aw (M:=M) (A:=RT.bl) (B:=RT.int .i64) mG G G I3 q0 (bl2) G G q0 VR (by repeat (first|exact bB _ _|refine aW (bC VR) ?_)) (λasE aod=>?_);refine bX (M:=M) al G G VR (by repeat (first|exact bB _ _|refine aW (bC VR) ?_)) (λaoe=>?_);refine Rg.a8 G G (aS ?_);exact aT G G ⟨by unfold Ez No;rw[if_pos (by simpa using c1),cL,hb];rfl,rfl⟩
theorem H6 {M:aP} {w0:World} {v:Value} {b:List UInt8} {at_ ahead:Int} (hM:Lt M w0) (hv:(RT.u8.sl).V M w0 b v) (MC: -9223372036854775808<=at_/\at_<=9223372036854775807) (hah: -9223372036854775808<=ahead/\ahead<=9223372036854775807) (uv:b.length<=1099511627776):
  Spec Tryz.prog 273 #[v,.int .i64 at_,.int .i64 ahead] w0 (λv' w'=>∃p,v'= .tuple #[p,.int .i64 (sO b at_ ahead).2.1,.int .i64 (sO b at_ ahead).2.2]/\RT.po.V M w' (sO b at_ ahead).1 p/\Step M w0 M w' aH):=by
 refine bD (args:=[_,_,_]) (fn:=Tryz.f273) Tryz.func273 G (n:=38) Tryz.ntmps273 (T.aU ?_);refine eu M jx G (λb0 w1 zK asF hB s1=>?_);have eD:=s1.lt hM;have sz:=hv.le s1.le;refine aJ G G (Rg.a8 G G (T.aU (ab G G (ab G G ?_))));refine aV G G aa8 (FP sz MC) (λr w2 h2=>?_);obtain⟨rfl,rfl⟩:=h2;have zh:=Ca b at_;obtain⟨hn0,hn1,hn2,hn3⟩:=pG b at_;refine ab G G (cP G G G (cP G G G (cP G G G (aJ G G (aJ G G (Rg.a8 G G (aQ (T.aU (ab G G ?_)))))))));refine fG G G G (ad ?_);refine bH G (λc2=>?_) (λc2=>?_)
 ·refine T.aU (cx (places:=[(0,1),(1,1)]) cv jx Sw G G (out:=[.int .i64 0,.slice none 0 0]) G (ab G G ?_));refine dm (M:=ins M b0) jx G G (by intro u hu;simp at hu;rcases hu with rfl|rfl<;>rfl) rfl rfl hB (.inl rfl) (λw3 hB3 s3=>?_);refine aJ G G (Rg.a8 G G (aS ?_));have nE:=s1.size;have S:Step M w0 M w3 aH:=(s1.cE s3 (λk hk=>by subst hk;omega)).back;refine Nl G G cv G jx G hB3 G G ⟨_,by unfold sO;rw[if_pos c2]<;>rfl,?_,S⟩;unfold sO;rw[if_pos c2];exact fM (iF (x:=0) hV) ib G G G G
 ·refine aM (T.aU (ab G G (ab G G ?_)));have fh:=wZ (b:=b) (at_:=at_) hV;refine aV G G ahz (Au (M:=ins M b0) eD sz hV uv) (λr w3 h3=>?_);obtain⟨x3,rfl,hx3,s3⟩:=h3;refine ab G G (cP G G G (cP G G G (cP G G G (aJ G G (aJ G G (Rg.a8 G G (T.aU (ab G G (Rg.zc G G G ?_)))))))));refine ab rfl rfl (Rg.zc rfl rfl rfl (ab rfl rfl (cx (places:=[(0,1),(1,1)]) cv jx Sw rfl ⟨_,_,rfl,rfl,_,_,rfl,rfl,rfl⟩ (out:=[_,_]) ⟨0,[_],rfl,rfl,by simp[Value.cells],1,[_],rfl,ic hx3,by simp[Value.cells],rfl⟩ (ab rfl rfl (ab rfl rfl ?_)))));obtain⟨vx,zW⟩:∃vx,vx=x3:=⟨_,rfl⟩;have wR:=jX hx3 rfl rfl;refine dm (M:=ins M b0) jx G G (by intro u hu;simp at hu;rcases hu with rfl|rfl;rfl;exact wR) G G (s3.aF hB) (.inl G) (λw4 hB4 s4=>?_);refine aJ G G (Rg.a8 G G (aS ?_));have nE:=s1.size;have asG:=s3.size;have S3:=s1.ar s3;have S:Step M w0 M w4 aH:=(S3.cE s4 (λk hk=>by subst hk;omega)).back;refine Nl G G cv G jx G hB4 G G ⟨_,by unfold sO;rw[if_neg c2]<;>rfl,?_,S⟩;unfold sO;rw[if_neg c2];have hx4:=(hx3.le s4.le).le (pz hM (S3.cE s4 (λk hk=>by subst hk;omega)));exact fM (iF Ex) hx4 G G G G
theorem H7 {M:aP} {w0:World} {v:Value} {l:List Po} {k:Int} (hM:Lt M w0) (hv:dp RT.li M w0 v (lJ l)) (vG:eJ (-1) l=true) (tu:∀p∈l,p.2.length<=1099511627776) (uv:(eB (-1) l).length<=1099511627776):
  Spec Tryz.prog 223 #[v,.int .i64 k] w0 (λv' w'=>Step M w0 M w' aH/\((RT.po).sl).V M w' (if No ((l.length+7)/8) k then(l.drop (8*k.toNat)).take 8 else[]) v'):=by
 have Ty:(lJ l).2.1.length=(l.length+7)/8:=by simp[lJ,qA]
 refine bD (args:=[_,_]) (fn:=Tryz.f223) Tryz.func223 G (n:=51) Tryz.ntmps223 (T.aU (Rg.a8 G G (aQ (T.aU (ab G G (ab G G ?_))))));refine aV G G aa7 (JU hv (k:=k)) (λr w1 h1=>?_);obtain⟨rfl,rfl⟩:=h1;refine jd G G (aZ (v':= .bool (decide (¬(0<=k/\k<(lJ l).2.1.length)))) (by unfold No;rw[decide_not]) (ad ?_));refine bH G (λc1=>?_) (λc1=>?_)
 ·refine T.aU (Rg.a8 G G (aS (aT G G ⟨bg,?_⟩)));rw[if_neg (by unfold No;rw[Ty]at c1;simpa using c1)];exact ib
 ·refine aM (T.aU (ab G G (bu G (dp.mS VR) G ?_)));refine aw (M:=M) (A:=RT.li) (B:=(RT.bl).sl) ez G G Ho q0 (li1) G G q0 VR (by repeat (first|exact bB _ _|refine aW (bC VR) ?_)) (λSR Ag=>?_);refine bV (M:=M) fu G G G G G VR (by repeat (first|exact bB _ _|refine aW (bC VR) ?_)) (λacH Ve=>?_);refine ab G G ?_;obtain⟨j,rfl⟩:∃j:Nat,k=j:=⟨k.toNat,by omega⟩;have hb:(lJ l).2.1[j]? =some (uM l j):=by simp only[lJ,qA,eX];rw[List.getElem?_range hV];rfl
  refine cD fu BE G G G VR ck hV (λTx X6 Pz JV=>?_);obtain rfl:X6=uM l j:=aG (Pz.symm.trans (by simpa using hb));have U4:(uM l j).2.2.2=(((l.drop (8*j)).take 8).length:Int):=rfl;have aof:((l.drop (8*j)).take 8).length<=8:=by rw[bI];omega
  refine cq (M:=M) (A:=RT.bl) mG G BE q0 G G G VR (by repeat (first|exact bB _ _|refine aW (bC VR) ?_)) (λTz yi=>?_);refine nI (A:=RT.bl) (M:=M) BE G G G G G VR (by repeat (first|exact bB _ _|refine aW (bC VR) ?_)) a65 (λajy X7 aog X8 asI=>?_);refine ad (T.aU (Rg.a8 G G (aQ (aQ ?_))));apply T.draw (M:=M) mixed [cy.ptr (RT.int .i64) (uM l j).1,cy.eq _,cy.ptr (RT.int .i64) (uM l j).2.1,cy.eq _,cy.eq _,cy.eq _]
  ·rfl
  ·refine aL ?_ ?_
   ·intro wD E sD;refine aw (M:=M) (A:=RT.bl) (B:=RT.int .i64) mG G G I3 q0 (bl0) G G q0 VR (by repeat (first|exact bB _ _|refine aW (bC VR) ?_)) (λacy JR=>?_);exact ad ⟨G,G,_,G,by assumption,bg⟩
   refine aL ?_ ?_
   ·intro wD E sD;intro v0 sk;refine bX (M:=M) al G G VR (by repeat (first|exact bB _ _|refine aW (bC VR) ?_)) (λVf=>?_);exact VT
   refine aL ?_ ?_
   ·intro wD E sD;refine aw (M:=M) (A:=RT.bl) (B:=RT.int .i64) mG G G I3 q0 (bl1) G G q0 VR (by repeat (first|exact bB _ _|refine aW (bC VR) ?_)) (λacJ vH=>?_);exact ad ⟨G,G,_,G,by assumption,bg⟩
   refine aL ?_ ?_
   ·intro wD E sD;intro v2 Ch;refine bX (M:=M) al G G VR (by repeat (first|exact bB _ _|refine aW (bC VR) ?_)) (λPA=>?_);exact VT
   refine aL ?_ ?_
   ·intro wD E sD;refine aA ?_;intro v0 sk;refine aA (aJ G G ?_);exact VT
   refine aL ?_ ?_
   ·intro wD E sD;refine aA (aA ?_);intro v0 sk;refine aA ?_;intro v2 Ch;refine aA (aA (aJ G G ?_));exact VT
   exact wL
  ·intro wD5 Tr;intro asJ aoh;refine aA ?_;intro aie UQ;refine aA (aA (aA (bp ?_)));have hz5:=X8.size;refine dz (σ:=Nat×Value) (λs=>[(0,v),(5,ajy),(6,s.2),(7,.int .i64 (eB (-1) (l.take (8*j+s.1))).length),(8,.int .i64 (dd (-1) (l.take (8*j+s.1))))]) (λs w=>s.1<=((l.drop (8*j)).take 8).length/\∃M1,Lt M1 w/\Step M w0 M1 w aH/\Step M X7 M1 w aH/\Own RT.po 188 M1 w X7.heap.size s.2 (((l.drop (8*j)).take 8).take s.1)) (λs=>((l.drop (8*j)).take 8).length-s.1) (0,_) a74 ?_ ?_
   ·exact⟨bA _,M,Tr.lt (X8.lt hM),X8.ar Tr,Tr,ep _ _ _ _ _⟩
   ·rintro⟨i,u0⟩ w1 ⟨hi,M1,eD,S,S5,ho⟩;dsimp only at hi ho ⊢;refine aQ (T.aU (ab G G (jD bK G ho G (aZ (v':= .int .i64 i) (by rw[bI,yZ hi]) ?_))));refine aw (M:=M1) (A:=RT.bl) (B:=RT.int .i64) mG G G I3 q0 (bl3) G G q0 VR (by repeat (first|exact bB _ _|refine aW (bC VR) ?_)) (λabv acK=>?_);refine bX al G G acK ck (λaoj=>?_);refine aZ (v':= .int .i64 ((l.drop (8*j)).take 8).length) G (cH G G G (ad ?_));refine bH G (λc6=>?_) (λc6=>?_)
    ·refine aM (bp (T.aU (ab G G (bu G (dp.mS VR) G ?_))));refine aw (M:=M1) (A:=RT.li) (B:=RT.u8.sl) ez G G EN q0 (li0) G G q0 VR (by repeat (first|exact bB _ _|refine aW (bC VR) ?_)) (λaiS Cw=>?_);refine bV (M:=M1) b4 G G G G G VR (by repeat (first|exact bB _ _|refine aW (bC VR) ?_)) (λasK acL=>?_);refine ab G G (ab G G ?_);obtain⟨⟨d,ps⟩,hx⟩:∃x,l[8*j+i]? =some x:=⟨_,aq (by rw[bI,dn]at c6;omega)⟩;obtain⟨f1,f2,f3,f4,f5,f6⟩:=ri vG hx;have htk:sO (lJ l).1 _ _=_:=Np vG hx (tu _ (ao hx));have Kv:(eB (-1) (l.take (8*j+i))).length<=(eB (-1) l).length:=by rw[rn (l:=l) (i:=8*j+i) (-1)];simp
     refine aV G G ahv (H6 (M:=M1) eD acL hV hV uv) (λr7 w7 h7=>?_);obtain⟨p7,h7e,Z6,s7⟩:=h7;rw[htk]at h7e Z6;subst h7e;change RT.po.V M1 w7 (d,ps) p7 at Z6;replace S:=S.ar s7;replace S5:=S5.ar s7;replace ho:=ho.br s7;replace eD:=s7.lt eD;have hci:((l.drop (8*j)).take 8)[i]? =some (d,ps):=by rw[dR,if_pos hV,iI];exact hx
     refine ab G G (cP G G G (cP G G G (cP G G G ?_)));refine nI (A:=RT.po) (M:=M1) jx G G G G G VR (by repeat (first|exact bB _ _|refine aW (bC VR) ?_)) a65 (λaol aom PB JW aon=>?_);refine aJ G G (Rg.a8 G G (T.aU (ab G G ?_)));replace S:=S.ar JW;replace S5:=S5.ar JW;replace ho:=ho.br JW;replace eD:=JW.lt eD;clear Z6;refine cq (A:=RT.po) cv G jx q0 G G G PB ck (λv8 Eh=>?_);refine dT (A:=RT.po) (hn:=by decide) (M:=M1) bK jx q0 G G eD Eh (.inl G) (λu2 w2 ff s2=>?_);refine cI (M:=M1) (base:=X7.heap.size) bK jx rfl rfl rfl rfl (ho.br s2) ff ck a06 a06 (ch S5.size s2.size) (λv3 M3 w3 RG s3=>?_);replace S:=(S.ar s2).cf s3 (ho.br s2) hz5;have hu9:=(PB.le q0 s2.le).le q0 s3.le;have PC:=s3.lt (s2.lt eD);replace S5:=(S5.ar s2).cf s3 (ho.br s2) (aK _);refine Rg.a8 G G ?_;apply T.draw (M:=M3) mixed [cy.eq _,cy.ptr (RT.int .i64) d,cy.eq _,cy.eq _,cy.eq _]
     ·rfl
     ·refine aL ?_ ?_
      ·intro wD E sD;refine ab G G ?_;exact VT
      refine aL ?_ ?_
      ·intro wD E sD;refine aw (M:=M3) (A:=RT.po) (B:=RT.int .i64) cv G G I3 q0 (RA) G G q0 hu9 sD.le (λaiY Pe=>?_);exact ad ⟨G,G,_,G,Pe,bg⟩
      refine aL ?_ ?_
      ·intro wD E sD;intro v1 sz;refine bX (M:=M3) al G G VR (by repeat (first|exact bB _ _|refine aW (bC VR) ?_)) (λaoo=>?_);exact VT
      refine aL ?_ ?_
      ·intro wD E sD;refine aA (aA (aJ G G ?_));exact VT
      refine aL ?_ ?_
      ·intro wD E sD;refine aA (aA (aA ?_));intro v1 sz;refine aA (aA (aJ G G ?_));exact VT
      exact wL
     ·intro Z7 JX;refine aA ?_;intro asM aop;refine aA (aA (aA ?_));refine⟨rfl,(i+1,v3),(.cons rfl (.cons rfl (.cons rfl (.cons rfl (.cons (by rw[<-f5];rfl) .nil))))),?_,?_⟩
      ·refine ⟨by simp only;omega,M3,JX.lt PC,S.ar JX,S5.ar JX,?_⟩;simp only;obtain⟨hc1,RD⟩:=ak.1 hci;rw[eL hc1,RD];exact RG.br JX
      ·simp only;omega
    ·refine de (T.aU (ab G G (Rg.a8 G G (aS (aT G G ⟨S.back,?_⟩)))));rw[if_pos (by unfold No;rw[Ty]at c1;simpa using c1),av];rw[bM hV]at ho;exact kH hM S (ho.jv hz5) hV
theorem FR {M:aP} {w0:World} {v:Value} {l:List Int} (hv:((RT.int .i64).sl).V M w0 l v):
  Spec Tryz.prog 264 #[v] w0 (λv' w'=>v'= .bool (pH l)/\w0=w'):=by
 have hlen:=dJ hv;refine bD (args:=[_]) (fn:=Tryz.f264) Tryz.func264 G (n:=32) Tryz.ntmps264 (T.aU (Rg.a8 G G (aQ (T.aU (ab G G ?_)))))
 first|refine bR aC rfl VR rfl ?_|refine jD aC rfl VR rfl ?_
 refine ab G G (ad (bp ?_));refine dz (σ:=Nat×Int) (λs=>[(0,v),(5,v),(6,.int .i64 l.length),(7,.int .i64 s.1)]) (λs w=>w0=w/\s.1<=l.length/\pH l=(gw s.2 (l.drop s.1)&&(l.drop s.1).all (λn=>decide (n<2147483648)))/\ -1<=s.2/\(s.1=0->s.2= -1)/\(0<s.1->l[s.1-1]? =some s.2)) (λs=>l.length-s.1) (0,-1) VS ?_ ?_
 ·exact⟨rfl,bA _,rfl,by decide,λ_=>rfl,λh=>absurd h (kG 0)⟩
 ·rintro⟨k,last⟩ w1 ⟨rfl,hk,hr,Tt,h0,h1⟩;dsimp only at hk hr Tt h0 h1 ⊢;refine T.aU (cH G G G (ad (aQ ?_)));refine bH G (λc2=>?_) (λc2=>?_)
  ·refine aM (aQ (bp (T.aU (ab G G ?_))));obtain⟨x,hx⟩:∃x,l[k]? =some x:=⟨_,aq hV⟩;refine cD aC I3 G G G hv ck hV (λasN ajz acM aoq=>?_);obtain rfl:x=ajz:=cY (aG (acM.symm.trans af5));refine bX (M:=M) al G G VR (by repeat (first|exact bB _ _|refine aW (bC VR) ?_)) (λaor=>?_);refine aJ G G (Rg.a8 G G (T.aU (ab G G (cH G G G (ab G G ?_)))));refine aB (g:=14) G (λxC=>?_) (λxC=>?_)
   ·refine aj G G G G (aj G G G G (aN G G G (ab G G (aj G G G G (aj G G G G (aj G G G G (bN G G G (bN G G G (bN G G G (bN G G G (bN G G G ?_)))))))))));refine bN G G G (bN G G G (aj G G G G (aN G G G (ad (iz G (T.aU (Rg.a8 G G (aS ?_))))))));refine aT G G ⟨congrArg Value.bool (cY ?_),G⟩;rw[hr,gK hx,rp _ hx];by_cases h7:last<x
    ·have h2: ¬x<2147483648:=by omega
     simp[h2]
    ·simp[h7]
   ·refine ae G G (ab G G (ae G G (cu G G G (au G G G (ab G G ?_)))));refine aB (g:=18) G (λajA=>?_) (λajA=>?_)
    ·refine aj G G G G (aj G G G G (aj G G G G (bN G G G (bN G G G (bN G G G (bN G G G (bN G G G (bN G G G (bN G G G (aj G G G G (aN G G G ?_)))))))))));refine ad (iz G (T.aU (Rg.a8 G G (aS ?_))));refine aT G G ⟨congrArg Value.bool (cY ?_),G⟩;rw[hr,gK hx,rp _ hx];by_cases h7:last<x
     ·have h2: ¬x<2147483648:=by omega
      simp[h2]
     ·simp[h7]
    ·refine ae G G (ab G G (ae G G (fR G G G (ae G G (ab G G ?_)))));refine aB (g:=21) G (λajB=>?_) (λajB=>?_)
     ·refine ae G G (ab G G (ae G G (ab G G (ae G G (ab G G (ae G G (iQ G G G hV (ae G G ?_))))))));refine cD aC I3 G G G hv ck hV (λaos acN X9 ajC=>?_);obtain rfl:last=acN:=cY (aG (X9.symm.trans (by rw[show((k:Int)-1).toNat=k-1 from by omega];exact h1 hV)));refine ae G G ?_;refine bX (M:=M) al G G VR (by repeat (first|exact bB _ _|refine aW (bC VR) ?_)) (λajD=>?_);refine ae G G (gr G G G (ae G G (aN G G G (au G G G (ad ?_)))));refine bH G (λc4=>?_) (λc4=>?_)
      ·refine T.aU (Rg.a8 G G (aS ?_));refine aT G G ⟨congrArg Value.bool (cY ?_),G⟩;rw[hr,gK hx,rp _ hx];by_cases h7:last<x
       ·have h2: ¬x<2147483648:=by omega
        simp[h2]
       ·simp[h7]
      ·refine aM (ay (aX G G G hV (ab G G (ad ?_))));refine⟨G,(k+1,x),VS,?_,?_⟩
       ·refine⟨rfl,by simp only;omega,?_,by simp only;omega,λh=>by simp at h,λ_=>by simpa using hx⟩;rw[hr,gK hx,rp _ hx,decide_eq_true (show last<x by omega),decide_eq_true (show x<2147483648 by omega),dF,dF]
       ·simp only;omega
     ·refine aj G G G G (aj G G G G (aj G G G G (aj G G G G (aj G G G G (aj G G G G (aj G G G G (ae G G (au G G G (au G G G (ad (fQ G ?_)))))))))));refine aM (ay (aX G G G hV (ab G G (ad ?_))));refine⟨G,(k+1,x),VS,?_,?_⟩
      ·refine⟨rfl,by simp only;omega,?_,by simp only;omega,λh=>by simp at h,λ_=>by simpa using hx⟩;rw[hr,gK hx,rp _ hx,decide_eq_true (show last<x by omega),decide_eq_true (show x<2147483648 by omega),dF,dF]
      ·simp only;omega
  ·refine de (T.aU (Rg.a8 G G (aS ?_)));refine aT G G ⟨congrArg Value.bool (cY ?_),G⟩;rw[hr,fV hV];rfl
theorem Ls {M:aP} {w0:World} {v:Value} {l:List Po} (hM:Lt M w0) (hv:((RT.po).sl).V M w0 l v):
  Spec Tryz.prog 192 #[v] w0 (λv' w'=>v'= .bool (eJ (-1) l)/\Step M w0 M w' aH):=by
 have hlen:=dJ hv;refine bD (args:=[_]) (fn:=Tryz.f192) Tryz.func192 G (n:=36) Tryz.ntmps192 (T.aU (Rg.a8 G G (T.aU (Rg.a8 G G (aQ (T.aU ?_))))));refine ab G G ?_
 first|refine bR bK rfl VR rfl ?_|refine jD bK rfl VR rfl ?_
 refine ab G G (ad (bp ?_));refine dz (σ:=Nat×Int) (λs=>[(6,v),(7,.int .i64 l.length),(8,.int .i64 s.1),(3,.int .i64 s.2)]) (λs w=>Step M w0 M w aH/\s.1<=l.length/\eJ (-1) l=eJ s.2 (l.drop s.1)) (λs=>l.length-s.1) (0,-1) VS ?_ ?_
 ·exact⟨bg,bA _,G⟩
 ·rintro⟨k,last⟩ w1 ⟨S,hk,hr⟩;dsimp only at hk hr ⊢;have hMw:=S.lt hM;refine T.aU (cH G G G (ad (aQ ?_)));refine bH G (λc3=>?_) (λc3=>?_)
  ·refine aM (aQ (bp (T.aU ?_)));obtain⟨⟨d,ps⟩,hx⟩:∃x,l[k]? =some x:=⟨_,aq hV⟩;refine cD bK jx G G G (hv.le S.le) ck hV (λK2 H8 Aw sV=>?_);obtain rfl:H8=(d,ps):=aG (Aw.symm.trans af5);refine cq (M:=M) (A:=RT.po) cv G jx q0 G G G VR (by repeat (first|exact bB _ _|refine aW (bC VR) ?_)) (λHB oY=>?_);refine nI (A:=RT.po) (M:=M) jx G G G G G VR (by repeat (first|exact bB _ _|refine aW (bC VR) ?_)) a65 (λSD WQ mZ pP acq=>?_);refine ad (aQ (T.aU ?_));refine aw (M:=M) (A:=RT.po) (B:=RT.int .i64) cv G G I3 q0 (RA) G G q0 VR (by repeat (first|exact bB _ _|refine aW (bC VR) ?_)) (λacy JR=>?_);refine bX al G G JR ck (λVf=>?_);refine aZ (v':= .int .i64 d) G ?_;simp only at Vf;refine ab G G (gr G G G (ab G G ?_));refine aB (g:=16) G (λajE=>?_) (λajE=>?_)
   ·refine aj G G G G (aj G G G G (aj G G G G (aN G G G (ab G G (aj G G G G (aj G G G G (aj G G G G (aj G G G G (aN G G G (ab G G (aj G G G G ?_)))))))))));refine aj G G G G (aj G G G G (aj G G G G (aN G G G (ad (iz G (T.aU (Rg.a8 G G (aS ?_))))))));refine aT G G ⟨congrArg Value.bool (cY ?_),S.ar pP⟩;rw[hr,mU hx]
    first
    |(rw[decide_eq_false (show¬last<d by omega)];simp;done)
    |(rw[decide_eq_false (show¬d<2147483648 by omega)];simp;done)
    |(rw[show ps=[]from cG.1 hV];simp;done)
    |(simp[c5];done)
   ·refine ae G G ?_;refine aw (M:=M) (A:=RT.po) (B:=RT.int .i64) cv G G I3 q0 (RA) G G q0 VR (by repeat (first|exact bB _ _|refine aW (bC VR) ?_)) (λacO PD=>?_);refine ae G G ?_;refine bX al G G PD ck (λaot=>?_);refine aZ (v':= .int .i64 d) G (ae G G (cu G G G (au G G G (ab G G ?_))));refine aB (g:=21) G (λajF=>?_) (λajF=>?_)
    ·refine aj G G G G (aj G G G G (aj G G G G (aj G G G G (aN G G G (ab G G (aj G G G G (aj G G G G (aj G G G G (aj G G G G (aN G G G (ad ?_)))))))))));refine iz G (T.aU (Rg.a8 G G (aS ?_)));refine aT G G ⟨congrArg Value.bool (cY ?_),S.ar pP⟩;rw[hr,mU hx]
     first
     |(rw[decide_eq_false (show¬last<d by omega)];simp;done)
     |(rw[decide_eq_false (show¬d<2147483648 by omega)];simp;done)
     |(rw[show ps=[]from cG.1 hV];simp;done)
     |(simp[c5];done)
    ·refine ae G G ?_;refine aw (M:=M) (A:=RT.po) (B:=(RT.int .i64).sl) cv G G qB q0 (Ws) G G q0 VR (by repeat (first|exact bB _ _|refine aW (bC VR) ?_)) (λaou ajG=>?_);refine ae G G ?_;refine bV (M:=M) aC G G G G G VR (by repeat (first|exact bB _ _|refine aW (bC VR) ?_)) (λaov Ya=>?_);refine ae G G (bR aC G Ya G (aZ (v':= .int .i64 ps.length) G (ae G G (je G G G (au G G G (ab G G ?_))))));refine aB (g:=27) G (λVg=>?_) (λVg=>?_)
     ·refine aj G G G G (aj G G G G (aj G G G G (aj G G G G (aN G G G (ad (iz G (T.aU (Rg.a8 G G (aS ?_)))))))));refine aT G G ⟨congrArg Value.bool (cY ?_),S.ar pP⟩;rw[hr,mU hx]
      first
      |(rw[decide_eq_false (show¬last<d by omega)];simp;done)
      |(rw[decide_eq_false (show¬d<2147483648 by omega)];simp;done)
      |(rw[show ps=[]from cG.1 hV];simp;done)
      |(simp[c5];done)
     ·refine ae G G ?_;refine aw (M:=M) (A:=RT.po) (B:=(RT.int .i64).sl) cv G G qB q0 (Ws) G G q0 VR (by repeat (first|exact bB _ _|refine aW (bC VR) ?_)) (λaow ajH=>?_);refine ae G G ?_;refine bV (M:=M) aC G G G G G VR (by repeat (first|exact bB _ _|refine aW (bC VR) ?_)) (λaox Yb=>?_);refine ae G G ?_;refine aV G G aht (FR Yb) (λr5 w5 h5=>?_);obtain⟨rfl,rfl⟩:=h5;refine ae G G (jd G G (aZ (v':= .bool (decide (¬pH ps=true))) (by simp) (au G G G (ad ?_))));refine bH G (λc5=>?_) (λc5=>?_)
      ·refine T.aU (Rg.a8 G G (aS ?_));refine aT G G ⟨congrArg Value.bool (cY ?_),S.ar pP⟩;rw[hr,mU hx]
       first
       |(rw[decide_eq_false (show¬last<d by omega)];simp;done)
       |(rw[decide_eq_false (show¬d<2147483648 by omega)];simp;done)
       |(rw[show ps=[]from cG.1 hV];simp;done)
       |(simp[c5];done)
      ·refine aM (ay ?_);refine aw (M:=M) (A:=RT.po) (B:=RT.int .i64) cv G G I3 q0 (RA) G G q0 VR (by repeat (first|exact bB _ _|refine aW (bC VR) ?_)) (λabJ JA=>?_);refine bX al G G JA ck (λaoy=>?_);refine aZ (v':= .int .i64 d) G (Rg.a8 G G (ay (aX G G G hV (ab G G (ad ?_)))));refine⟨G,(k+1,d),VS,?_,?_⟩
       ·refine ⟨S.ar pP,by simp only;omega,?_⟩
        have fB:ps.isEmpty=false:=by cases ps with
         |nil=>simp at Vg
         |cons a t=>rfl
        rw[hr,mU hx,decide_eq_true (show last<d by omega),decide_eq_true (show d<2147483648 by omega),fB,cF.1 c5];rfl
       ·simp only;omega
  ·refine de (T.aU (Rg.a8 G G (aS ?_)));refine aT G G ⟨congrArg Value.bool (cY ?_),S⟩;rw[hr,fV hV];rfl
theorem H9 {M:aP} {w0:World} {v:Value} {l:List Po} (hM:Lt M w0) (hv:((RT.po).sl).V M w0 l v):
  Spec Tryz.prog 193 #[v,.int .i64 8] w0 (λv' w'=>∃bs bn,v'= .func (.func 265) [].toArray [.pointer (some ⟨bs,0,none⟩),.pointer (some ⟨bn,0,none⟩)].toArray/\w'.heap[bs]? =some (.cells #[v] 117 (0,0))/\w'.heap[bn]? =some (.cells #[.int .i64 8] 3 (0,0))/\w0.heap.size<=bs/\w0.heap.size<=bn/\Step M w0 M w' aH):=by
 refine bD (args:=[_,_]) (fn:=Tryz.f193) Tryz.func193 G (n:=9) Tryz.ntmps193 (T.aU ?_);refine qu M G G (λbs w1 h1 Sa hS s1=>?_);rw[ic hv]at hS;refine qu (ins M bs) G G (λbn w2 h2 GX hN s2=>?_);have hS2:=s2.aF hS;have hz1:=s1.size;refine Rg.a8 G G (aQ (T.aU (aR al G G G hN G (cH G G G (ad (T.MM G (q0) (aM (T.aU ?_))))))));refine jQ (xs:=[]) (ys:=[.tmp 2,.tmp 3]) G G G (Rg.a8 G G (aS ?_));exact aT G G ⟨bs,bn,G,hS2,hN,h1,by omega,(s1.ar s2).back⟩
theorem FT {w0:World} {bs bn yl:Nat} {v:Value} {l:List Po} {M:aP} {wv:World} {J:Nat->World->Prop} {Jx:World->Prop} (hv:((RT.po).sl).V M wv l v) (lF:∀i w w',J i w->Step aH w aH w' aH->J i w') (TA:∀i w,J i w->w.heap[bs]? =some (.cells #[v] 117 (0,0))/\w.heap[bn]? =some (.cells #[.int .i64 8] 3 (0,0))) (hy:∀(i:Nat) (w:World) (u:Value),J i w->i<l.length->((RT.po).sl).V M wv ((l.drop i).take 8) u->zo Tryz.prog yl [u].toArray w (λr w'=>∃b,r= .bool b/\(b=true->J (min (i+8) l.length) w')/\(b=false->Jx w'))) (h0:J 0 w0):
  Spec Tryz.prog 265 #[.func (.yield yl) #[] #[],.pointer (some ⟨bs,0,none⟩),.pointer (some ⟨bn,0,none⟩)] w0 (λ_ w'=>J l.length w'∨Jx w'):=by
 have hlen:=dJ hv;refine bD (args:=[_,_,_]) (fn:=Tryz.f265) Tryz.func265 G (n:=31) Tryz.ntmps265 (T.aU (Rg.a8 G G (bp ?_)));refine dz (σ:=Nat) (λs=>[(0,.func (.yield yl) #[] #[]),(1,.pointer (some ⟨bs,0,none⟩)),(2,.pointer (some ⟨bn,0,none⟩)),(4,.int .i64 s)]) (λs w=>J (min s l.length) w/\s<=l.length+8) (λs=>l.length+8-s) 0 VS ?_ ?_
 ·exact⟨by rw[Nat.zero_min];exact h0,bA _⟩
 ·rintro k w1 ⟨hJ,hk⟩;obtain⟨xi,yv⟩:=TA _ _ hJ;refine aQ (T.aU (ab G G (aR bK G G G xi G ?_)))
  first|refine bR bK rfl VR rfl ?_|refine jD bK rfl VR rfl ?_
  refine cH G G G (ad ?_);refine bH G (λc1=>?_) (λc1=>?_)
  ·refine aM (aQ (bp (aQ ?_)));apply T.draw (M:=aH) mixed [cy.eq _,cy.eq _,cy.eq _,cy.pure (λv=>((RT.po).sl).V M wv (l.drop k) v),cy.eq _,cy.eq _,cy.eq _]
   ·rfl
   ·refine aL ?_ ?_
    ·intro wD E sD;refine aR al G G G (cp sD yv) G ?_;exact VT
    refine aL ?_ ?_
    ·intro wD E sD;refine aR bK G G G (cp sD xi) G ?_;exact VT
    refine aL ?_ ?_
    ·intro wD E sD;refine ab G G ?_;exact VT
    refine aL ?_ ?_
    ·intro wD E sD;refine aA (aA ?_);refine Rg.pB (A:=RT.po) (hn:=by decide) bK jx G G G hv hV (λu hu=>?_);rw[av]at hu;exact ad ⟨G,G,_,G,hu,bg⟩
    refine aL ?_ ?_
    ·intro wD E sD;intro v3 vm;have ajI:((RT.po).sl).V M wv (l.drop k) v3:=vm;refine bR bK G ajI G ?_;exact VT
    refine aL ?_ ?_
    ·intro wD E sD;refine aA (aA (Rg.min2 G G G ?_));exact VT
    refine aL ?_ ?_
    ·intro wD E sD;refine aA (aA (aA (aA ?_)));intro v3 vm;refine aA (aA (aJ G G ?_));exact VT
    exact wL
   ·intro wD3 qC;refine aA (aA (aA ?_));intro acH Ve;refine aA (aA (aA ?_));rw[show min k l.length=k from by omega]at hJ;have hJ3:=lF _ _ _ hJ qC;obtain⟨hb3,TB⟩:=TA _ _ hJ3;refine T.aU (ab G G (aR bK G G G hb3 G (ab G G (ab G G (ab G G (aX G G G hV (ab G G (ab G G (aX G G G hV ?_)))))))));refine Rg.KC (A:=RT.po) (hn:=by decide) bK jx rfl rfl rfl rfl rfl hv (by rw[dn];omega) (λu hu=>?_)
    have he:(l.take ((k:Int)+min 8 ((l.drop k).length:Int)).toNat).drop (k:Int).toNat=(l.drop k).take 8:=by
     rw[av,List.drop_take,dn,show((k:Int)+min 8 ((l.length-k:Nat):Int)).toNat-k=min 8 (l.length-k)from by omega,iH,dn];omega
    rw[he]at hu;refine Rg.yield G (vs:=[u]) G G (hy k _ u hJ3 hV hu) (λr4 w4 h4=>?_);obtain⟨b,rfl,hb5,sF⟩:=h4;refine jd G G (aZ (v':= .bool (decide (¬b=true))) (by simp) (ad ?_));refine bH G (λc4=>?_) (λc4=>?_)
    ·refine aS ?_;exact Ei G (.inr (sF (by simpa using c4)))
    ·refine aM (ay (ab G G ?_));have hJ5:=hb5 (cF.1 c4);refine aR al G G G (TA _ _ hJ5).2 G (aX G G G hV (Rg.a8 G G ?_));refine⟨G,k+8,VS,?_,?_⟩
     ·exact⟨hJ5,by omega⟩
     ·show l.length+8-(k+8)<l.length+8-k;omega
  ·refine de ?_;rw[show min k l.length=l.length from by omega]at hJ;change yu Tryz.prog Tryz.f265 (λ_ w'=>J l.length w'∨Jx w') .normal _ [] _;exact kM G (.inl hJ)
structure oy (M:aP) (w0:World) (v:Value) (bo bx bl D bs bn:Nat) (st:Obj) (vb vk:Value) (xd last:Int) (b:List UInt8) (ks:List Bl) (M1:aP) (w:World):Prop where
 lt:Lt M1 w
 S:Step M w0 M1 w aH
 mo:M1 bo
 mx:M1 bx
 ml:M1 bl
 md:M1 D
 mr:M1 (D+1)
 o:w.heap[bo]? =some (.cells #[.pointer (some ⟨bx,0,none⟩)] 250 (0,0))
 x:w.heap[bx]? =some (.cells #[vb,vk,.int .i64 xd] 296 (0,0))
 l:w.heap[bl]? =some (.cells #[.int .i64 last] 3 (0,0))
 d:w.heap[D]? =some (.deferred (some []))
 r:w.heap[D+1]? =some st
 s:w.heap[bs]? =some (.cells #[v] 117 (0,0))
 n:w.heap[bn]? =some (.cells #[.int .i64 8] 3 (0,0))
 ne:bo≠bx/\bo≠bl/\bx≠bl/\bo<D/\bx<D/\bl<D/\bs<D/\bn<D/\bs≠bo/\bs≠bx/\bs≠bl/\bn≠bo/\bn≠bx/\bn≠bl/\w0.heap.size<=bo/\w0.heap.size<=bx/\w0.heap.size<=bl/\w0.heap.size<=D
 hb:(RT.u8.sl).V M1 w b vb
 hk:Own RT.bl 301 M1 w (D+2) vk ks
section
variable {M M1 M2:aP} {w0 w w':World} {v vb vk:Value} {bo bx bl D bs bn:Nat} {st:Obj} {xd last:Int} {b:List UInt8} {ks:List Bl}
theorem oy.step (h:oy M w0 v bo bx bl D bs bn st vb vk xd last b ks M1 w) (s:Step M1 w M2 w' aH):oy M w0 v bo bx bl D bs bn st vb vk xd last b ks M2 w':=
 ⟨s.lt h.lt,h.S.ar s,(s.mem _ (h.lt _ h.mo)).2 h.mo,(s.mem _ (h.lt _ h.mx)).2 h.mx,(s.mem _ (h.lt _ h.ml)).2 h.ml,(s.mem _ (h.lt _ h.md)).2 h.md,(s.mem _ (h.lt _ h.mr)).2 h.mr,
  s.aF h.o,s.aF h.x,s.aF h.l,s.aF h.d,s.aF h.r,s.aF h.s,s.aF h.n,h.ne,h.hb.le s.le,h.hk.br s⟩
theorem oy.TC {n:Int} (h:oy M w0 v bo bx bl D bs bn st vb vk xd last b ks M1 w) (s:Step M1 w M1 w' (λk=>k=bl)) (hl:w'.heap[bl]? =some (.cells #[.int .i64 n] 3 (0,0))):oy M w0 v bo bx bl D bs bn st vb vk xd n b ks M1 w':=by
 obtain⟨e1,e2,e3,e4,e5,e6,e7,e8,e9,Ia,Lu,JY,PE,e14,e15,Z8,e17,e18⟩:=h.ne
 exact⟨s.lt h.lt,h.S.cE s (λk hk=>by subst hk;exact e17),h.mo,h.mx,h.ml,h.md,h.mr,s.bY h.o e2,s.bY h.x e3,hl,s.bY h.d hV,s.bY h.r hV,s.bY h.s Lu,s.bY h.n e14,h.ne,h.hb.le s.le,
  h.hk.step s (λk hk hh=>by have:=(h.hk.base k hk).1;omega)⟩
theorem oy.Yc {vb' Yd:Value} {acR:Int} {b':List UInt8} {Wy:List Bl} (h:oy M w0 v bo bx bl D bs bn st vb vk xd last b ks M1 w) (s:Step M1 w M1 w' (λk=>k=bx)) (hx:w'.heap[bx]? =some (.cells #[vb',Yd,.int .i64 acR] 296 (0,0)))
  (hb:(RT.u8.sl).V M1 w' b' vb') (hk:Own RT.bl 301 M1 w (D+2) Yd Wy):oy M w0 v bo bx bl D bs bn st vb' Yd acR last b' Wy M1 w':=by
 obtain⟨e1,e2,e3,e4,e5,e6,e7,e8,e9,Ia,Lu,JY,PE,e14,e15,Z8,e17,e18⟩:=h.ne
 exact⟨s.lt h.lt,h.S.cE s (λk hk=>by subst hk;exact Z8),h.mo,h.mx,h.ml,h.md,h.mr,s.bY h.o e1,hx,s.bY h.l (Ne.symm e3),s.bY h.d hV,s.bY h.r hV,s.bY h.s Ia,s.bY h.n PE,h.ne,hb,
  hk.step s (λk qx hh=>by have:=(hk.base k qx).1;omega)⟩
theorem oy.qG {st':Obj} (h:oy M w0 v bo bx bl D bs bn st vb vk xd last b ks M1 w) (lF:w.heap[D+1]? =some st):oy M w0 v bo bx bl D bs bn st' vb vk xd last b ks M1 (w.putObj (D+1) st'):=by
 have s:Step M1 w M1 (w.putObj (D+1) st') (λk=>k=D+1):=gE h.mr;obtain⟨e1,e2,e3,e4,e5,e6,e7,e8,e9,Ia,Lu,JY,PE,e14,e15,Z8,e17,e18⟩:=h.ne
 exact⟨s.lt h.lt,h.S.cE s (λk hk=>by subst hk;omega),h.mo,h.mx,h.ml,h.md,h.mr,s.bY h.o hV,s.bY h.x hV,s.bY h.l hV,s.bY h.d hV,World.putObj_heap_same (ah lF),s.bY h.s hV,s.bY h.n hV,h.ne,h.hb.le s.le,
  h.hk.step s (λk qx hh=>by have:=(h.hk.base k qx).1;omega)⟩
theorem oy.other {q:Nat} (h:oy M w0 v bo bx bl D bs bn st vb vk xd last b ks M1 w) (s:Step M1 w M1 w' (λk=>k=q)) (hq:D+1<q) (hqv:∀k,vk.ownBlock=some k->k≠q):oy M w0 v bo bx bl D bs bn st vb vk xd last b ks M1 w':=by
 obtain⟨e1,e2,e3,e4,e5,e6,e7,e8,e9,Ia,Lu,JY,PE,e14,e15,Z8,e17,e18⟩:=h.ne
 exact⟨s.lt h.lt,h.S.cE s (λk hk=>by subst hk;omega),h.mo,h.mx,h.ml,h.md,h.mr,s.bY h.o hV,s.bY h.x hV,s.bY h.l hV,s.bY h.d hV,s.bY h.r hV,s.bY h.s hV,s.bY h.n hV,h.ne,h.hb.le s.le,
  h.hk.step s (λk qx hh=>hqv k qx hh)⟩
theorem oy.grow {Yd:Value} {Wy:List Bl} (h:oy M w0 v bo bx bl D bs bn st vb vk xd last b ks M1 w) (s:Step M1 w M2 w' (λk=>vk.ownBlock=some k)) (hk:Own RT.bl 301 M2 w' (D+2) Yd Wy):
  (w'.heap[bx]? =some (.cells #[vb,vk,.int .i64 xd] 296 (0,0))/\M2 bx/\Lt M2 w')/\∀{w2:World},Step M2 w' M2 w2 (λk=>k=bx)->w2.heap[bx]? =some (.cells #[vb,Yd,.int .i64 xd] 296 (0,0))->oy M w0 v bo bx bl D bs bn st vb Yd xd last b Wy M2 w2:=by
 obtain⟨e1,e2,e3,e4,e5,e6,e7,e8,e9,Ia,Lu,JY,PE,e14,e15,Z8,e17,e18⟩:=h.ne;have hn:∀k,vk.ownBlock=some k->D+2<=k:=λk hk=>(h.hk.base k hk).1
 have ig:=λ{k:Nat} (hm:M1 k)=>(s.mem k (h.lt k hm)).2 hm
 refine ⟨⟨s.bY h.x (λhh=>by have:=hn _ hh;omega),ig h.mx,s.lt h.lt⟩,λ{w2} s2 hx=> ?_⟩;have S':=h.S.cE s (λk hk=>by have:=hn k hk;omega)
 exact⟨s2.lt (s.lt h.lt),S'.cE s2 (λk hk=>by subst hk;exact Z8),ig h.mo,ig h.mx,ig h.ml,ig h.md,ig h.mr,s2.bY (s.bY h.o (λhh=>by have:=hn _ hh;omega)) e1,hx,s2.bY (s.bY h.l (λhh=>by have:=hn _ hh;omega)) (Ne.symm e3),
  s2.bY (s.bY h.d (λhh=>by have:=hn _ hh;omega)) hV,s2.bY (s.bY h.r (λhh=>by have:=hn _ hh;omega)) hV,s2.bY (s.bY h.s (λhh=>by have:=hn _ hh;omega)) Ia,s2.bY (s.bY h.n (λhh=>by have:=hn _ hh;omega)) PE,h.ne,(h.hb.le s.le).le s2.le,
  hk.step s2 (λk qx hh=>by have:=(hk.base k qx).1;omega)⟩
end
def PF (M:aP) (w0:World) (l:List Po) (v:Value) (bo bx bl D bs bn:Nat) (st:Obj) (i:Nat) (w:World):Prop:=
 ∃(M1:aP) (vb vk:Value),oy M w0 v bo bx bl D bs bn st vb vk (jI (l.take i)) (dd (-1) (l.take i)) (eB (-1) (l.take i)) (qA l ((i+7)/8)) M1 w/\(i%8=0\/i=l.length)/\i<=l.length
theorem Ye {M:aP} {w0 w2 w3 w5 w6 w7:World} {v:Value} {l:List Po} {bo bx bl bs bn:Nat} {st:Obj} (S6:Step M w0 (ins (ins (ins M bx) bo) bl) w6 aH) (s7:Step (ins (ins (ins M bx) bo) bl) w6 (ins (ins (ins M bx) bo) bl) w7 aH) (hM:Lt M w0)
  (e1:bo<w6.heap.size) (e2:bx<w6.heap.size) (e3:bl<w6.heap.size) (n1:bo≠bx) (n2:bo≠bl) (n3:bx≠bl)
  (hO:w6.heap[bo]? =some (.cells #[.pointer (some ⟨bx,0,none⟩)] 250 (0,0))) (hX:w6.heap[bx]? =some (.cells #[.slice none 0 0,.slice none 0 0,.int .i64 0] 296 (0,0))) (hL:w6.heap[bl]? =some (.cells #[.int .i64 (-1)] 3 (0,0)))
  (hS:w7.heap[bs]? =some (.cells #[v] 117 (0,0))) (hN:w7.heap[bn]? =some (.cells #[.int .i64 8] 3 (0,0))) (hbs:w6.heap.size<=bs) (ZQ:w6.heap.size<=bn)
  (g1:w0.heap.size<=bo) (g2:w0.heap.size<=bx) (g3:w0.heap.size<=bl):
  PF M w0 l v bo bx bl w7.heap.size bs bn st 0 ((w7.alloc (.deferred (some []))).alloc st):=by
 have sA:Step (ins (ins (ins M bx) bo) bl) w7 (ins (ins (ins (ins M bx) bo) bl) w7.heap.size) (w7.alloc (.deferred (some []))) aH:=(ef _ w7 _).own (aK _) (by simp);have sB:Step (ins (ins (ins (ins M bx) bo) bl) w7.heap.size) (w7.alloc (.deferred (some []))) (ins (ins (ins (ins (ins M bx) bo) bl) w7.heap.size) (w7.heap.size+1)) ((w7.alloc (.deferred (some []))).alloc st) aH:=(ef _ _ _).own (by simp) (by simp);have z7:=s7.size;have hs7:=ah hS;have hn7:=ah hN;have S:=((S6.ar s7).ar sA).ar sB;have hD:(w7.alloc (.deferred (some []))).heap[w7.heap.size]? =some (.deferred (some [])):=dC w7 _;have hR:((w7.alloc (.deferred (some []))).alloc st).heap[w7.heap.size+1]? =some st:=by have:=dC (w7.alloc (.deferred (some []))) st;rwa [World.size_alloc]at this
 have z0:=S6.size;refine⟨_,.slice none 0 0,.slice none 0 0,⟨S.lt hM,S,?_,?_,?_,?_,.inl rfl,sB.aF (sA.aF (s7.aF hO)),sB.aF (sA.aF (s7.aF hX)),sB.aF (sA.aF (s7.aF hL)),sB.aF hD,hR,sB.aF (sA.aF hS),sB.aF (sA.aF hN),by omega,ib,ep _ _ _ _ _⟩,.inl rfl,bA _⟩
 ·exact .inr (.inr (.inr (.inl G)))
 ·exact .inr (.inr (.inr (.inr (.inl G))))
 ·exact .inr (.inr (.inl G))
 ·exact .inr (.inl G)
set_option maxHeartbeats 4000000 in
theorem xD {M:aP} {w0:World} {v:Value} {l:List Po} (hM:Lt M w0) (hv:((RT.po).sl).V M w0 l v) (tu:∀p∈l,p.2.length<=1099511627776) (uv:(eB (-1) l).length<=35184372088832) (Rz:l.length<=1099511627776) (asP:jI l<=4611686018427387904):
  Spec Tryz.prog 155 #[v] w0 (λv' w'=>Step M w0 M w' aH/\(eJ (-1) l=true->∃p,v'= .tuple #[p,.int .i64 0]/\dp RT.li M w' p (lJ l))/\(eJ (-1) l=false->v'= .tuple #[.pointer none,.int .i64 1])):=by
 have hlen:=dJ hv;refine uI (args:=[_]) (fn:=Tryz.f155) Tryz.func155 G (n:=85) Tryz.ntmps155 (T.aU (aJ G G (Rg.a8 G G (aQ (T.aU (ab G G ?_))))));refine aV G G ahl (Ls hM hv) (λr w1 h1=>?_);obtain⟨rfl,s1⟩:=h1;refine jd G G (aZ (v':= .bool (decide (¬eJ (-1) l=true))) (by simp) (ad ?_));refine bH G (λc1=>?_) (λc1=>?_)
 ·refine T.aU (aJ G G (Rg.a8 G G (aS ?_)));exact R9 G G G ⟨s1,λh=>absurd h c1,λ_=>G⟩
 ·have vG:=cF.1 c1;refine aM (T.aU (cx (places:=[(0,1),(1,1),(2,1)]) ez ag0 ag2 G G (out:=[.slice none 0 0,.slice none 0 0,.int .i64 0]) G ?_));refine qu M G G (λbx w2 TA asQ hX s2=>?_);change w2.heap[bx]? =some (.cells #[.slice none 0 0,.slice none 0 0,.int .i64 0] 296 (0,0))at hX;refine eu (ins M bx) tK G (λbo w3 hbo asR hO s3=>?_);refine cA (M:=ins (ins M bx) bo) tK G G hO G G (.inl G) (λw4 hO4 s4=>?_);refine ad (T.aU ?_);refine eu (ins (ins M bx) bo) I3 G (λbl w5 asT aoE hL s5=>?_);refine cA (M:=ins (ins (ins M bx) bo) bl) I3 G G hL G G (.inl G) (λw6 hL6 s6=>?_);have z1:=s1.size;have z2:=s2.size;have z3:=s3.size;have z4:=s4.size;have z5:=s5.size;have z6:=s6.size;have S6:Step M w0 (ins (ins (ins M bx) bo) bl) w6 aH:=((((s1.ar s2).ar s3).cE s4 (λk hk=>by subst hk;omega)).ar s5).cE s6 (λk hk=>by subst hk;omega);have hO6:=s6.bY (s5.aF hO4) (show bo≠bl by omega);have Ib:=s6.bY (s5.aF (s4.bY (s3.aF hX) (show bx≠bo by omega))) (show bx≠bl by omega);refine ad (aQ (T.aU (ab G G ?_)));refine aV G G ahm (H9 (M:=ins (ins (ins M bx) bo) bl) (S6.lt hM) (hv.le S6.le)) (λr w7 h7=>?_);obtain⟨bs,bn,rfl,hS7,hN7,hbs,ZQ,s7⟩:=h7;have z7:=s7.size;have asW:=ah hS7;have asX:=ah hN7;refine ad (bp ?_);refine T.range (gf:=265) (lb:=[.pointer (some ⟨bs,0,none⟩),.pointer (some ⟨bn,0,none⟩)].toArray) G ahu (λrec uG=>?_);obtain⟨D,hD⟩:∃D,D=w7.heap.size:=⟨_,rfl⟩;rw[<-hD]at uG ⊢
  have h0:PF M w0 l v bo bx bl D bs bn (.loop (rec .ready none)) 0 ((w7.alloc (.deferred (some []))).alloc (.loop (rec .ready none))):=by
   rw[hD]at uG ⊢;exact Ye (w2:=w7) (w3:=w7) (w5:=w7) S6 s7 hM hV hV hV hV hV hV hO6 Ib hL6 hS7 hN7 hbs ZQ hV hV hV
  refine Spec.mono (FT (M:=M) (wv:=w0) (J:=PF M w0 l v bo bx bl D bs bn (.loop (rec .ready none))) (Jx:=λ_=>False) hv (λi w w' ⟨M1,vb,vk,h,h2⟩ s=>⟨M1,vb,vk,h.step (s.any M1),h2⟩) (λi w ⟨M1,vb,vk,h,h2⟩=>⟨h.s,h.n⟩) (λi wr u hJ hi hu=>?_) h0) (λ_ w3 h3=>?_)
  ·obtain⟨M1,vb,vk,h,hi8,qz⟩:=hJ;refine rR (ps:=[17]) (vs:=[u]) uG h.r G q0 (ay (Rg.a8 G G (⟨G,h.r,?_⟩)));have h1:=h.qG (st':= .loop (rec .busy none)) h.r;generalize wr.putObj (D+1) _=wB at h1 ⊢;have hO:=h1.o;have hX:=h1.x;have hL:=h1.l;have hB:=h1.hb;have eU:=h1.lt;have tw:((l.drop i).take 8).length<=8:=by rw[bI];omega
   have asY:((l.drop i).take 8).length=min 8 (l.length-i):=by rw[bI,dn]
   obtain⟨q1,q2,q3,q4,q5,q6,q7,q8,q9,q10,q11,q12,q13,q14,q15,q16,q17,q18⟩:=h1.ne;refine bp (aQ ?_);apply T.Jg (M:=M1) (n:=85) _ mixed [] [cy.eq _,cy.eq _,cy.eq _,cy.eq _,cy.eq _,cy.eq _,cy.eq _,cy.eq _,cy.eq _,cy.mk' (λp w'=>∃bq,p= .pointer (some ⟨bq,0,none⟩)/\wB.heap.size<=bq/\w'.heap[bq]? =some (.cells #[.int .i64 0,.int .i64 0,.int .i64 0,.int .i64 0] 301 (0,0))) (fun⟨bq,h1,h2,h3⟩ s=>⟨bq,h1,h2,s.aF h3⟩)]
   ·rfl
   ·rfl
   ·rfl
   ·rfl
   ·exact a90
   ·exact sh
   ·refine aD ?_ ?_
    ·intro wD E sD;refine aR dV G G G (cp sD VR) G ?_;exact VT
    refine aD ?_ ?_
    ·intro wD E sD;refine aA (bu G ⟨_,G⟩ G ?_);exact VT
    refine aD ?_ ?_
    ·intro wD E sD;refine aA (a7 ez G G EN q0 G G ?_);exact VT
    refine aD ?_ ?_
    ·intro wD E sD;refine aA (aR b4 G G G (cp sD VR) G ?_);exact VT
    refine aD ?_ ?_
    ·intro wD E sD;refine aA ?_
     first|refine bR b4 rfl VR rfl ?_|refine jD b4 rfl VR rfl ?_
     exact VT
    refine aD ?_ ?_
    ·intro wD E sD;refine aR al G G G (cp sD VR) G ?_;exact VT
    refine aD ?_ ?_
    ·intro wD E sD;refine ab G G ?_;exact VT
    refine aD ?_ ?_
    ·intro wD E sD;refine aA ?_
     first|refine bR bK rfl VR rfl ?_|refine jD bK rfl VR rfl ?_
     exact VT
    refine aD ?_ ?_
    ·intro wD E sD;refine aA (aA (aA (cx (places:=[(0,1),(1,1),(2,1),(3,1)]) mG BE ag3 rfl ⟨_,_,rfl,rfl,_,_,rfl,rfl,_,_,rfl,rfl,rfl⟩ (out:=[.int .i64 (eB (-1) (l.take i)).length,.int .i64 (dd (-1) (l.take i)),.int .i64 0,.int .i64 ((l.drop i).take 8).length]) ⟨0,[_],rfl,rfl,by simp[Value.cells],1,[_],rfl,rfl,by simp[Value.cells],3,[_],rfl,rfl,by simp[Value.cells],rfl⟩ ?_)));exact VT
    refine aD ?_ ?_
    ·intro wD E sD;refine eu M1 BE G (λbq wq e1 e2 e3 s=>?_);exact ad ⟨G,G,_,G,⟨bq,G,ch sD.size e1,e3⟩,s.back⟩
    exact kI
   ·intro wD7 sD7;refine aA (aA (aA (aA (aA (aA (aA (aA (aA ?_))))))));intro ata acS;obtain⟨bq,rfl,Wj,hq2⟩:=acS;have UA:=ah hq2;have sQ:Step M1 wB (ins M1 bq) wD7 aH:=sD7.own Wj UA;refine dm (M:=ins M1 bq) (vs:=[.int .i64 (eB (-1) (l.take i)).length,.int .i64 (dd (-1) (l.take i)),.int .i64 0,.int .i64 ((l.drop i).take 8).length]) BE G G (by intro x hx;simp at hx;rcases hx with rfl|rfl|rfl|rfl<;>rfl) rfl rfl hq2 (.inl rfl) (λwQ hQ sQ2=>?_);refine ad ⟨G,?_⟩;have h2:=h1.step (sQ.cE sQ2 (λk hk=>by subst hk;exact Wj));have hqv:∀k,vk.ownBlock=some k->k≠bq:=λk hk=>by have:=(h1.hk.base k hk).2;omega
    have hDq:D+1<bq:=by have:=ah h1.r;omega
    have h3:oy M w0 v bo bx bl D bs bn (.loop (rec .busy none)) vb vk (jI (l.take (i+0))) (dd (-1) (l.take (i+0))) (eB (-1) (l.take (i+0))) (qA l ((i+7)/8)) (ins M1 bq) wQ:=h2;obtain⟨M2,Js⟩:∃M2,M2=ins M1 bq:=⟨_,rfl⟩;rw[<-Js]at h3;refine aQ (T.aU (ab G G ?_))
    first|refine bR bK rfl VR rfl ?_|refine jD bK rfl VR rfl ?_
    refine ab G G (ad (bp ?_));refine dz (σ:=Nat×Value) (λs=>[(4,.pointer (some ⟨bo,0,none⟩)),(5,.pointer (some ⟨bl,0,none⟩)),(6,u),(7,.pointer (some ⟨bq,0,none⟩)),(27,u),(28,.int .i64 ((l.drop i).take 8).length),(29,.int .i64 s.1)]) (λs w=>s.1<=((l.drop i).take 8).length/\w.heap[bq]? =some (.cells #[.int .i64 (eB (-1) (l.take i)).length,.int .i64 (dd (-1) (l.take i)),.int .i64 0,.int .i64 ((l.drop i).take 8).length] 301 (0,0))/\oy M w0 v bo bx bl D bs bn (.loop (rec .busy none)) s.2 vk (jI (l.take (i+s.1))) (dd (-1) (l.take (i+s.1))) (eB (-1) (l.take (i+s.1))) (qA l ((i+7)/8)) M2 w) (λs=>((l.drop i).take 8).length-s.1) (0,vb) a92 ?_ ?_
    ·exact⟨bA _,hQ,h3⟩
    ·rintro⟨j,vb⟩ wj ⟨hj,hQ,h4⟩;dsimp only at hj hQ h4 ⊢;have eU:=h4.lt;refine T.aU (cH G G G (ad (aQ ?_)));refine bH G (λc9=>?_) (λc9=>?_)
     ·refine aM (aQ (bp (T.aU ?_)));obtain⟨⟨d,ps⟩,hx⟩:∃x,l[i+j]? =some x:=⟨_,aq hV⟩;obtain⟨f1,f2,f3,f4,f5,f6⟩:=ri vG hx;obtain⟨f7,f8⟩:=pI.1 f4;have fps:=tu _ (ao hx);have fb:=ov l (i+j);have ft:=EA l (i+j);have ft2:=EA l (i+j+1);rw[zw hx]at ft2;have ftk:=zu (-1) hx;have ftl:=ov l (i+j+1);simp only at fps;refine cD bK jx G G G (hu.le h4.S.le) ck hV (λOe FU Ax zZ=>?_);obtain rfl:(d,ps)=FU:=cY (aG (Ax.symm.trans (by rw[av,dR,if_pos hV,iI];exact hx)));refine cq (M:=M2) (A:=RT.po) cv G jx q0 G G G VR (by repeat (first|exact bB _ _|refine aW (bC VR) ?_)) (λabG Of=>?_);refine nI (A:=RT.po) (M:=M2) jx G G G G G VR (by repeat (first|exact bB _ _|refine aW (bC VR) ?_)) a65 (λaoJ Vh Yf vI aoK=>?_);refine ad (aQ ?_);have h5:=h4.step vI;have hO:=h5.o;have hX:=h5.x;have hL:=h5.l;have hB:=h5.hb;have eU:=h5.lt;have hp0:=Yf;apply T.Jg (M:=M2) (n:=85) _ mixed [] [cy.eq _,cy.eq _,cy.eq _,cy.eq _,cy.eq _,cy.ptr (RT.int .i64) d,cy.eq (.int .i64 d),cy.eq _,cy.eq _,cy.eq (.int .i64 (((d-dd (-1) (l.take (i+j))-1).toNat:Nat):Int)),cy.V (RT.u8.sl) (eB (-1) (l.take (i+j))++put (d-dd (-1) (l.take (i+j))-1).toNat),cy.eq _,cy.eq _]
      ·rfl
      ·rfl
      ·rfl
      ·rfl
      ·exact a90
      ·exact sh
      ·refine aD ?_ ?_
       ·intro wD E sD;refine aR dV G G G (cp sD VR) G ?_;exact VT
       refine aD ?_ ?_
       ·intro wD E sD;refine aR dV G G G (cp sD VR) G ?_;exact VT
       refine aD ?_ ?_
       ·intro wD E sD;refine aA (bu G ⟨_,G⟩ G ?_);exact VT
       refine aD ?_ ?_
       ·intro wD E sD;refine aA (a7 ez G G EN q0 G G ?_);exact VT
       refine aD ?_ ?_
       ·intro wD E sD;refine aA (aR b4 G G G (cp sD VR) G ?_);exact VT
       refine aD ?_ ?_
       ·intro wD E sD;refine aw (M:=M2) (A:=RT.po) (B:=RT.int .i64) cv G G I3 q0 (RA) G G q0 VR (by repeat (first|exact bB _ _|refine aW (bC VR) ?_)) (λaoL ajK=>?_);exact ad ⟨G,G,_,G,by assumption,bg⟩
       refine aD ?_ ?_
       ·intro wD E sD;intro v5 qT;refine bX (M:=M2) al G G VR (by repeat (first|exact bB _ _|refine aW (bC VR) ?_)) (λajL=>?_);exact VT
       refine aD ?_ ?_
       ·intro wD E sD;refine aR al G G G (cp sD VR) G ?_;exact VT
       refine aD ?_ ?_
       ·intro wD E sD;refine aA (aA (iQ G G G hV ?_));exact VT
       refine aD ?_ ?_
       ·intro wD E sD;refine aA (iQ G G G hV (aZ (v':= .int .i64 (((d-dd (-1) (l.take (i+j))-1).toNat:Nat):Int)) a52 ?_));exact VT
       refine aD ?_ ?_
       ·intro wD E sD;refine aA (aA ?_);refine aV G G WK (Pr (M:=M2) (sD.lt eU) (hB.le sD.le) hV hV) (λrP wP hP=>?_);exact ad ⟨G,G,_,G,hP.2,hP.1⟩
       refine aD ?_ ?_
       ·intro wD E sD;refine aA (aA (aA (aA (aA (aA ?_)))));intro v5 qT;refine aA (aA (aA (aA ?_)));intro v10 tY;refine bu G ⟨_,G⟩ G ?_;exact VT
       refine aD ?_ ?_
       ·intro wD E sD;refine aA (aA (aA (aA (aA (aA ?_)))));intro v5 qT;refine aA (aA (aA (aA ?_)));intro v10 tY;refine a7 ez G G EN q0 G G ?_;exact VT
       exact kI
      ·intro FI eg;refine aA (aA (aA (aA (aA ?_))));intro aoM ajM;refine aA (aA (aA (aA ?_)));intro PG yU;refine aA (aA ?_);have h6:=h5.step eg;have hp6:=hp0.le q0 eg.le;refine cA (M:=M2) EN G G h6.x G (jX yU G G) h6.mx (λw11 DN Ay=>?_);refine ad ⟨G,?_⟩;have h7:=h6.Yc Ay DN (RT.V.le Ay.le yU) h6.hk;have Z6:=hp6.le q0 Ay.le;refine aQ ?_;have hO:=h7.o;have hX:=h7.x;have hB:=h7.hb;have eU:=h7.lt;have fbl:(eB (-1) (l.take (i+j))++put (d-dd (-1) (l.take (i+j))-1).toNat).length<=35184372088832:=by rw[ftk]at ftl;simp only[bT]at ftl ⊢;omega
       apply T.Ux (M:=M2) mixed [(13,λk=>k=bx)] [cy.eq _,cy.eq _,cy.eq _,cy.eq _,cy.eq _,cy.ptr ((RT.int .i64).sl) ps,cy.V ((RT.int .i64).sl) ps,⟨λt w=>∃x,t= .tuple #[x,.int .i64 0]/\(RT.u8.sl).V M2 w (eB (-1) (l.take (i+j))++put (d-dd (-1) (l.take (i+j))-1).toNat++eV ps) x,Kr,fun⟨x,h1,h2⟩ s _=>⟨x,h1,h2.le s.le⟩⟩,⟨λt w=>∃x,t= .tuple #[x,.int .i64 0]/\(RT.u8.sl).V M2 w (eB (-1) (l.take (i+j))++put (d-dd (-1) (l.take (i+j))-1).toNat++eV ps) x,Kr,fun⟨x,h1,h2⟩ s _=>⟨x,h1,h2.le s.le⟩⟩,cy.V (RT.u8.sl) (eB (-1) (l.take (i+j))++put (d-dd (-1) (l.take (i+j))-1).toNat++eV ps),cy.eq (.int .i64 0),cy.eq _,cy.eq _,⟨λ_ w=>∃x,w.heap[bx]? =some (.cells #[x,vk,.int .i64 (jI (l.take (i+j)))] 296 (0,0))/\(RT.u8.sl).V M2 w (eB (-1) (l.take (i+j))++put (d-dd (-1) (l.take (i+j))-1).toNat++eV ps) x,λk=>k≠bx,fun⟨x,h1,h2⟩ s hN=>⟨x,s.bY h1 (λhb=>hN _ hb rfl),h2.le s.le⟩⟩]
       ·rfl
       ·intro p hp b hb;simp only[cV]at hp;subst hp
        cases hb;exact h7.mx
       ·exact⟨λ_ _ _ _=>trivial,⟨λ_ _ _ _=>trivial,⟨λ_ _ _ _=>trivial,⟨λ_ _ _ _=>trivial,⟨λ_ _ _ _=>trivial,⟨λ_ _ _ _=>trivial,⟨λ_ _ _ _=>trivial,⟨λ_ _ _ _=>trivial,⟨λ_ _ _ _=>trivial,⟨λ_ _ _ _=>trivial,⟨λ_ _ _ _=>trivial,⟨λ_ _ _ _=>trivial,⟨λ_ _ _ _=>trivial,⟨λp hp=>by simp at hp,trivial⟩⟩⟩⟩⟩⟩⟩⟩⟩⟩⟩⟩⟩⟩
       ·refine aL ?_ ?_
        ·intro wD E sD;replace sD:Step M2 _ M2 wD aH:=sD;refine aR dV G G G (cp sD VR) G ?_;exact VT
        refine aL ?_ ?_
        ·intro wD E sD;replace sD:Step M2 _ M2 wD aH:=sD;refine aR dV G G G (cp sD VR) G ?_;exact VT
        refine aL ?_ ?_
        ·intro wD E sD;replace sD:Step M2 _ M2 wD aH:=sD;refine aA (bu G ⟨_,G⟩ G ?_);exact VT
        refine aL ?_ ?_
        ·intro wD E sD;replace sD:Step M2 _ M2 wD aH:=sD;refine aA (a7 ez G G EN q0 G G ?_);exact VT
        refine aL ?_ ?_
        ·intro wD E sD;replace sD:Step M2 _ M2 wD aH:=sD;refine aA (aR b4 G G G (cp sD VR) G ?_);exact VT
        refine aL ?_ ?_
        ·intro wD E sD;replace sD:Step M2 _ M2 wD aH:=sD;refine aw (M:=M2) (A:=RT.po) (B:=(RT.int .i64).sl) cv G G qB q0 Ws G G q0 Z6 sD.le (λuf vJ=>?_);exact a73
        refine aL ?_ ?_
        ·intro wD E sD;replace sD:Step M2 _ M2 wD aH:=sD;intro v5 qT;refine bV aC G G G G G (show dp ((RT.int .i64).sl) M2 wD v5 ps from qT) ck (λuf vJ=>?_);exact a73
        refine aL ?_ ?_
        ·intro wD E sD;replace sD:Step M2 _ M2 wD aH:=sD;refine aA ?_;intro v6 qE;refine aV G G ahn (As (M:=M2) (sD.lt eU) (hB.le sD.le) (show((RT.int .i64).sl).V M2 wD ps v6 from qE) hV) (λrP wP hP=>?_);obtain⟨xP,sP,hP1,Lv⟩:=hP;rw[if_pos f7]at hP1 Lv;exact ad ⟨G,G,_,G,⟨xP,hP1,Lv⟩,sP⟩
        refine aL ?_ ?_
        ·intro wD E sD;replace sD:Step M2 _ M2 wD aH:=sD;intro v7 Fi;refine ab G G ?_;exact ad ⟨G,G,_,G,Fi,bg⟩
        refine aL ?_ ?_
        ·intro wD E sD;replace sD:Step M2 _ M2 wD aH:=sD;intro v8 Eh;obtain⟨xP,rfl,Lv⟩:=Eh;refine cP G G G ?_;exact ad ⟨G,G,_,G,Lv,bg⟩
        refine aL ?_ ?_
        ·intro wD E sD;replace sD:Step M2 _ M2 wD (λk=>k=bx):=sD;intro v8 Eh;obtain⟨xP,rfl,Lv⟩:=Eh;refine cP G G G ?_;exact VT
        refine aL ?_ ?_
        ·intro wD E sD;replace sD:Step M2 _ M2 wD (λk=>k=bx):=sD;refine aA (aA (aA (aA (aA (aA ?_)))));intro v5 qT;intro v6 qE;intro v7 Fi;intro v8 Eh;intro v9 K4;refine bu G ⟨_,G⟩ G ?_;exact VT
        refine aL ?_ ?_
        ·intro wD E sD;replace sD:Step M2 _ M2 wD aH:=sD;refine aA (aA (aA (aA (aA (aA ?_)))));intro v5 qT;intro v6 qE;intro v7 Fi;intro v8 Eh;intro v9 K4;refine a7 ez G G EN q0 G G ?_;exact VT
        refine aL ?_ ?_
        ·intro wD E sD;replace sD:Step M2 _ M2 wD aH:=sD;refine aA ?_;intro v9 K4;intro v7 Fi;refine aA (aA (aA (aA (aA ?_))));intro v5 qT;intro v6 qE;intro v7 Fi;intro v8 Eh;intro v9 K4;refine cA (M:=M2) EN G G (cp sD hX) G (jX (A:=RT.u8.sl) K4 G G) h7.mx (λwS hXS sS=>?_);exact ad ⟨G,G,undef,G,⟨_,hXS,RT.V.le (A:=RT.u8.sl) sS.le K4⟩,sS⟩
        exact wL
       ·intro PH Az;replace Az:Step M2 _ M2 PH (λk=>k=bx):=Az;refine aA (aA (aA (aA (aA ?_))));intro aoN ajN;intro aoO ajO;intro aoP ajP;intro aoQ ajQ;intro aoR ajR;refine aA (aA (aA ?_));intro ajS TD;obtain⟨v12,Ic,ajT⟩:=TD;have h8:=h7.Yc Az Ic ajT h7.hk;have hp8:=Z6.le q0 Az.le;refine aQ ?_;have hO:=h8.o;have hX:=h8.x;apply T.Jg (M:=M2) (n:=85) _ mixed [] [cy.eq _,cy.eq _,cy.eq _,cy.eq _,cy.ptr ((RT.int .i64).sl) ps,cy.V ((RT.int .i64).sl) ps,cy.eq (.int .i64 ps.length),cy.eq _,cy.eq _,cy.eq _]
        ·rfl
        ·rfl
        ·rfl
        ·rfl
        ·exact a90
        ·exact sh
        ·refine aD ?_ ?_
         ·intro wD E sD;refine aR dV G G G (cp sD VR) G ?_;exact VT
         refine aD ?_ ?_
         ·intro wD E sD;refine aA (bu G ⟨_,G⟩ G ?_);exact VT
         refine aD ?_ ?_
         ·intro wD E sD;refine aA (a7 ez G G I3 q0 G G ?_);exact VT
         refine aD ?_ ?_
         ·intro wD E sD;refine aA (aR al G G G (cp sD VR) G ?_);exact VT
         refine aD ?_ ?_
         ·intro wD E sD;refine aw (M:=M2) (A:=RT.po) (B:=(RT.int .i64).sl) cv G G qB q0 Ws G G q0 hp8 sD.le (λuf vJ=>?_);exact a73
         refine aD ?_ ?_
         ·intro wD E sD;intro v4 qS;refine bV aC G G G G G (show dp ((RT.int .i64).sl) M2 wD v4 ps from qS) ck (λuf vJ=>?_);exact a73
         refine aD ?_ ?_
         ·intro wD E sD;intro v5 qT;refine bR aC G (show((RT.int .i64).sl).V M2 wD ps v5 from qT) G ?_;exact VT
         refine aD ?_ ?_
         ·intro wD E sD;refine aA (aA (aX G G G hV ?_));exact VT
         refine aD ?_ ?_
         ·intro wD E sD;refine aA (aA (aA (aA (aA ?_))));intro v4 qS;intro v5 qT;refine aA (aA (bu G ⟨_,G⟩ G ?_));exact VT
         refine aD ?_ ?_
         ·intro wD E sD;refine aA (aA (aA (aA (aA ?_))));intro v4 qS;intro v5 qT;refine aA (aA (a7 ez G G I3 q0 G G ?_));exact VT
         exact kI
        ·intro Og jy;refine aA (aA (aA (aA ?_)));intro aoT ajU;intro JB xu;refine aA (aA (aA (aA ?_)));have h9:=h8.step jy;refine cA (M:=M2) I3 G G h9.x G G h9.mx (λXU PI vE=>?_);refine ad ⟨G,?_⟩;have Ll:=h9.Yc vE PI (h9.hb.le vE.le) h9.hk;have ajV:=(hp8.le q0 jy.le).le q0 vE.le;refine ay ?_;refine aw (A:=RT.po) (B:=RT.int .i64) cv G G I3 q0 RA G G q0 ajV ck (λaoU Yg=>?_);refine bX al G G Yg ck (λ_=>?_);refine aZ (v':= .int .i64 d) G ?_;refine cA (M:=M2) I3 G G Ll.l G G Ll.ml (λOy ajW jZ=>?_);have h11:=Ll.TC jZ ajW;refine ad (ay (aX G G G hV (ab G G (ad ?_))));refine⟨G,(j+1,v12),a92,?_,?_⟩
         ·refine⟨by simp only;omega,?_,?_⟩
          ·exact jZ.bY (vE.bY (jy.aF (Az.bY (Ay.bY (eg.aF (vI.aF hQ)) hV) hV)) hV) hV
          ·simp only;rw[show i+(j+1)=i+j+1 from by omega,zw hx,f5,ftk];exact h11
         ·simp only;omega
     ·refine de (T.aU ?_);obtain rfl:j=((l.drop i).take 8).length:=by omega
      have hbq:M2 bq:=by rw[Js];exact .inl G
      refine aR al G G G h4.l G (a7 (o':=2) mG G G I3 q0 G G ?_);refine cA (M:=M2) I3 G G hQ G G hbq (λVi acU Ie=>?_);have Z9:=h4.other Ie hDq hqv;change Vi.heap[bq]? =some (.cells [.int .i64 (eB (-1) (l.take i)).length,.int .i64 (dd (-1) (l.take i)),.int .i64 (dd (-1) (l.take (i+((l.drop i).take 8).length))),.int .i64 ((l.drop i).take 8).length].toArray 301 (0,0))at acU;refine ad ?_;have hO:=Z9.o;have hX:=Z9.x;have TE:=Z9.hk;have jb:∀k,vk.ownBlock=some k->k≠bo:=λk hk=>by have:=(TE.base k hk).1;omega
      have ati:=ah Z9.r;have g1:=k9 l (-1) vG hV i;have g2:=k9 l (-1) vG hV (i+((l.drop i).take 8).length);have g3:=ov l i;apply T.Jg (M:=M2) (n:=85) _ mixed [(7,λk=>vk.ownBlock=some k)] [cy.eq _,cy.eq _,cy.eq _,cy.eq _,cy.eq _,cy.eq (.agg [.int .i64 (eB (-1) (l.take i)).length,.int .i64 (dd (-1) (l.take i)),.int .i64 (dd (-1) (l.take (i+((l.drop i).take 8).length))),.int .i64 ((l.drop i).take 8).length].toArray),cy.V ((RT.bl).sl) [(((eB (-1) (l.take i)).length:Int),dd (-1) (l.take i),dd (-1) (l.take (i+((l.drop i).take 8).length)),(((l.drop i).take 8).length:Int))],⟨λt w=>∃M3,Own RT.bl 301 M3 w (D+2) t (qA l ((i+7)/8)++[(((eB (-1) (l.take i)).length:Int),dd (-1) (l.take i),dd (-1) (l.take (i+((l.drop i).take 8).length)),(((l.drop i).take 8).length:Int))])/\Step M2 Vi M3 w (λk=>vk.ownBlock=some k),aH,fun⟨M3,h1,h2⟩ s hN=>⟨M3,h1.br ((s.eE hN a30).any M3),h2.ar ((s.eE hN a30).any M3)⟩⟩,cy.eq _,cy.eq _]
      ·rfl
      ·rfl
      ·rfl
      ·rfl
      ·intro p hp b hb;simp only[cV]at hp;subst hp;exact TE.mut_ b hb
      ·exact⟨λ_ _ _ _=>trivial,⟨λ_ _ _ _=>trivial,⟨λ_ _ _ _=>trivial,⟨λ_ _ _ _=>trivial,⟨λ_ _ _ _=>trivial,⟨λ_ _ _ _=>trivial,⟨λ_ _ _ _=>trivial,⟨λp hp=>by simp at hp,⟨λ_ _ _ _=>trivial,⟨λ_ _ _ _=>trivial,trivial⟩⟩⟩⟩⟩⟩⟩⟩⟩⟩
      ·refine aD ?_ ?_
       ·intro wD E sD;replace sD:Step M2 _ M2 wD (λk=>vk.ownBlock=some k):=sD;refine aR dV G G G (sD.bY hO (λhb=>jb _ hb rfl)) G ?_;exact VT
       refine aD ?_ ?_
       ·intro wD E sD;replace sD:Step M2 _ M2 wD (λk=>vk.ownBlock=some k):=sD;refine aR dV G G G (sD.bY hO (λhb=>jb _ hb rfl)) G ?_;exact VT
       refine aD ?_ ?_
       ·intro wD E sD;replace sD:Step M2 _ M2 wD (λk=>vk.ownBlock=some k):=sD;refine aA (bu G ⟨_,G⟩ G ?_);exact VT
       refine aD ?_ ?_
       ·intro wD E sD;replace sD:Step M2 _ M2 wD (λk=>vk.ownBlock=some k):=sD;refine aA (a7 ez G G Ho q0 G G ?_);exact VT
       refine aD ?_ ?_
       ·intro wD E sD;replace sD:Step M2 _ M2 wD aH:=sD;refine aA (aR fu G G G (cp sD VR) G ?_);exact VT
       refine aD ?_ ?_
       ·intro wD E sD;replace sD:Step M2 _ M2 wD (λk=>vk.ownBlock=some k):=sD;refine eM (vs:=[.int .i64 (eB (-1) (l.take i)).length,.int .i64 (dd (-1) (l.take i)),.int .i64 (dd (-1) (l.take (i+((l.drop i).take 8).length))),.int .i64 ((l.drop i).take 8).length]) mG G BE G G G (sD.bY acU (λhb=>hqv _ hb rfl)) ?_;exact VT
       refine aD ?_ ?_
       ·intro wD E sD;replace sD:Step M2 _ M2 wD aH:=sD;refine aA ?_;refine dT (A:=RT.bl) (hn:=by decide) (M:=M2) fu BE q0 G G (sD.lt Z9.lt) (agL hV hV hV hV) (.inl G) (λuS wS hS sS=>?_);exact ad ⟨G,G,_,G,hS,sS⟩
       refine aD ?_ ?_
       ·intro wD E sD;replace sD:Step M2 _ M2 wD aH:=sD;refine aA ?_;intro v6 qE;refine cI (M:=M2) (base:=D+2) fu BE rfl rfl rfl rfl (TE.br sD) (show((RT.bl).sl).V M2 wD [(((eB (-1) (l.take i)).length:Int),dd (-1) (l.take i),dd (-1) (l.take (i+((l.drop i).take 8).length)),(((l.drop i).take 8).length:Int))] v6 from qE) ck (by simp[qA];omega) (by simp[qA];omega) (by have:=sD.size;omega) (λv3 M3 w3 RG s3=>?_);exact ad ⟨G,G,_,G,⟨M3,RG,(sD.eE a30 TE.mut_).trans s3 (λb _ hb=>hb)⟩,s3.back⟩
       refine aD ?_ ?_
       ·intro wD E sD;replace sD:Step M2 _ M2 wD (λk=>vk.ownBlock=some k):=sD;refine aA (aA (aA (aA (aA (aA (aA ?_))))));intro v6 qE;intro v7 Fi;refine bu G ⟨_,G⟩ G ?_;exact VT
       refine aD ?_ ?_
       ·intro wD E sD;replace sD:Step M2 _ M2 wD (λk=>vk.ownBlock=some k):=sD;refine aA (aA (aA (aA (aA (aA (aA ?_))))));intro v6 qE;intro v7 Fi;refine a7 ez G G Ho q0 G G ?_;exact VT
       exact kI
      ·intro Yh vK;replace vK:Step M2 _ M2 Yh (λk=>vk.ownBlock=some k):=vK;refine aA (aA (aA (aA (aA (aA ?_)))));intro aoV ajX;intro aoW Yi;refine aA (aA ?_);obtain⟨M3,RG,sR⟩:=Yi;obtain⟨⟨hx3,hm3,atk⟩,Wc⟩:=Z9.grow sR RG;refine cA (M:=M3) Ho rfl rfl hx3 rfl (by obtain⟨_,_,he,_⟩:=RG.isSlice;rw[he];rfl) hm3 (λw17 ajY s17=>?_);refine ad ⟨G,?_⟩;have X3:=Wc s17 ajY;have h18:=X3.qG (st':= .loop (rec .ready none)) X3.r;have hE:i+((l.drop i).take 8).length=min (i+8) l.length:=by omega
       rw[hE,Nq hV hi]at h18;exact⟨X3.r,true,rfl,λ_=>⟨M3,_,_,h18,by omega,by omega⟩,λh=>by cases h⟩
  ·obtain⟨Mz,vb,vk,h,_,_⟩:=h3.resolve_right (λh=>h);left;rw[List.take_length]at h;have h5:=h.qG (st':= .loop (rec .exhausted none)) h.r;refine ⟨h.r,?_⟩;generalize w3.putObj (D+1) _=wE at h5 ⊢;refine T.aU (aR dV G G G h5.o G (aJ G G (Rg.a8 G G (aS ?_))));obtain⟨q1,q2,q3,q4,q5,q6,q7,q8,q9,q10,q11,q12,q13,q14,q15,q16,q17,q18⟩:=h5.ne;have sZ:Step Mz wE Mz (wE.putObj D (.deferred none)) (λk=>k=D):=gE h5.md;have SZ:=h5.S.cE sZ (λk hk=>by subst hk;omega);have ht:=pJ l;refine Wo rfl rfl rfl h5.d ⟨SZ.back,λ_=>⟨_,rfl,?_⟩,λhf=>by rw[vG]at hf;cases hf⟩;exact aaM (sZ.bY h5.x hV) (λhh=>by have:=hM _ hh;omega) ((h5.hb.le sZ.le).le (pz hM SZ)) (kH hM SZ ((h5.hk.step sZ (λk hk hh=>by have:=(h5.hk.base k hk).1;omega)).jv hV) (by simp[qA];omega)) hV
namespace TKBldG
theorem lv:TI Tryz.prog 117 (.slice none 0 0) 1 24:=by unfold TI;kernel_rfl
theorem Lw:TI Tryz.prog 249 (.slice none 0 0) 1 24:=by unfold TI;kernel_rfl
theorem TF:Enters Tryz.prog 155:=enters Tryz.func155 rfl q0
theorem aj0:Enters Tryz.prog 196:=enters Tryz.func196 rfl q0
end TKBldG
open TKBldG
set_option maxRecDepth 10000
theorem index_spec {M:aP} {l:List (List Po)} {v0:Value} {g:FuncId} {cap:List Value} {B:Nat} {J:Nat->aP->World->Prop} {bad:List Po->Bool} (w0:World) (hM:Lt M w0) (hv:(((RT.po).sl).sl).V M w0 l v0) (hg:Enters Tryz.prog g) (hJ:J 0 M w0) (lF:∀i M w M' w',J i M w->Step M w M' w' aH->J i M' w') (ht:∀i M w x vx,J i M w->Lt M w->l[i]? =some x->((RT.po).sl).V M w x vx->Spec Tryz.prog g ([vx]++cap).toArray w (λv w'=>∃M',Lt M' w'∧v= .bool (bad x)/\(bad x=false->J (i+1) M' w')/\Step M w M' w' (l5 M B))):
  Spec Tryz.prog 196 #[v0,.func (.func g) #[] cap.toArray] w0 (λv w=>∃M' k,v= .int .i64 k/\ -1<=k/\Lt M' w/\Step M w0 M' w (l5 M B)/\(k= -1->(∀x∈l,bad x=false)/\J l.length M' w)/\(0<=k->∃x∈l,bad x=true)):=by
 have hlen:=dJ hv;refine bD (args:=[_,_]) (fn:=Tryz.f196) Tryz.func196 G (n:=19) Tryz.ntmps196 ?_;have S:Step M w0 M w0 (l5 M B):=(bg).eE a30 (λ_ h=>h.2);refine T.aU (Rg.a8 G G (aQ (T.aU (ab G G (bR Tryz.underlying112 G hv G (ab G G (ad (bp ?_))))))));refine dz (σ:=Nat) (λq=>[(0,v0),(1,.func (.func g) #[] cap.toArray),(6,v0),(7,.int .i64 (l.length:Int)),(8,.int .i64 (q:Int))]) (λq w=>∃M',Lt M' w/\Step M w0 M' w (l5 M B)/\(((RT.po).sl).sl).V M' w l v0/\J q M' w/\q<=l.length/\∀x∈l.take q,bad x=false) (λq=>l.length-q) 0 a74 ?_ ?_
 ·exact⟨M,hM,S,hv,hJ,bA _,λx h=>by simp at h⟩
 ·clear hM S hv hJ;rintro i w ⟨M1,hM,S,hv,hJ,hi,ka⟩;refine T.aU (cH G G G (ad (aQ ?_)));refine bH G (λc2=>?_) (λc2=>?_)
  ·refine aM (aQ (bp (T.aU (ab G G (Rg.a8 G G (T.aU (ab G G (ab G G ?_))))))));refine ab G G ?_;refine cD Tryz.underlying112 lv G G G hv ck hV (λu x Hr hu=>?_);rw[av]at Hr;refine bV bK G G G G G hu ck (λvx zW=>?_);refine wJ (first:=[]) (captured:=cap) (xs:=[.tmp 15]) G G G hg (ht i _ _ x vx hJ hM Hr zW) (λr4 w4 hc=>?_);obtain⟨M4,Vj,rfl,hJ4,s4⟩:=hc;refine aZ (v':= .bool (decide (bad x=true))) (by simp) ?_;have S4:=S.trans s4 (λk hk h=>⟨h.1,(S.mem k hk).1 h.2⟩);refine ad ?_;refine bH G (λc4=>?_) (λc4=>?_)
   ·refine T.aU (ab G G (Rg.a8 G G (aS ?_)));exact aT G G ⟨M4,_,G,by omega,Vj,S4,λh=>absurd h hV,λ_=>⟨x,ao Hr,c4⟩⟩
   ·refine aM (ay (aX G G G hV (ab G G (ad ?_))));refine⟨G,i+1,a74,?_,?_⟩
    ·have hb:bad x=false:=by simpa using c4
     exact⟨M4,Vj,S4,hv.le s4.le,hJ4 hb,by omega,λy hy=>by
      rw[cj,Hr,dS,dH,cV]at hy;rcases hy with hy|rfl
      ·exact ka y hy
      ·exact hb⟩
    ·omega
  ·refine de (T.aU (Rg.a8 G G (aS ?_)));rw[bM hV]at ka;have e:i=l.length:=by omega
   subst e;exact aT G G ⟨_,_,G,by omega,hM,S,λ_=>⟨ka,hJ⟩,λh=>absurd h hV⟩
theorem BQ {M:aP} {l:List (List Po)} {v0:Value} {g:FuncId} {cap:List Value} {B:Nat} {J:Nat->aP->World->Prop} {bad:List Po->Bool} (w0:World) (hM:Lt M w0) (hv:(((RT.po).sl).sl).V M w0 l v0) (hg:Enters Tryz.prog g) (hJ:J 0 M w0) (lF:∀i M w M' w',J i M w->Step M w M' w' aH->J i M' w') (ht:∀i M w x vx,J i M w->Lt M w->l[i]? =some x->((RT.po).sl).V M w x vx->Spec Tryz.prog g ([vx]++cap).toArray w (λv w'=>∃M',Lt M' w'∧v= .bool (bad x)/\(bad x=false->J (i+1) M' w')/\Step M w M' w' (l5 M B))):
  Spec Tryz.prog 156 #[v0,.func (.func g) #[] cap.toArray] w0 (λv w=>∃M' k,v= .bool (decide (0<=k))/\ -1<=k/\Lt M' w/\Step M w0 M' w (l5 M B)/\(k= -1->(∀x∈l,bad x=false)/\J l.length M' w)/\(0<=k->∃x∈l,bad x=true)):=by
 refine bD (args:=[_,_]) (fn:=Tryz.f156) Tryz.func156 G (n:=9) Tryz.ntmps156 (T.aU (Rg.a8 G G (T.aU (ab G G (ab G G ?_)))));refine aV G G aj0 (index_spec w0 hM hv hg hJ lF ht) (λr w1 hc=>?_);obtain⟨M1,k,rfl,hk,h2⟩:=hc;refine cu G G G (Rg.a8 G G (aS ?_));exact aT G G ⟨M1,k,G,hk,h2⟩
def FV (x:List Po):Int:=match x.getLast? with|some p=>p.1|none=> -1
def oz (n:Int) (x:List Po):Bool:= !eJ (-1) x||x.isEmpty||decide (n<=FV x)
theorem FX {x:List Po} {p:Po} (h:x[x.length-1]? =some p):FV x=p.1:=by
 unfold FV;rw[List.getLast?_eq_getElem?,h]
structure Room (x:List Po):Prop where
 ps:∀p∈x,p.2.length<=1099511627776
 by_:(eB (-1) x).length<=35184372088832
 ln:x.length<=1099511627776
 xd:jI x<=4611686018427387904
def RT.cell:RT Value where
 n:=1
 agg:=false
 R:=λ_ _ x vs=>vs=[x]/\x.oneCell'=true
 len:=by rintro _ _ x vs ⟨rfl,_⟩;rfl
 one:=by rintro _ _ x vs ⟨rfl,h⟩ v hv;simp at hv;subst hv;exact h
 le:=λ_ h=>h
theorem TG {M:aP} {w:World} {v:Value} (h:v.oneCell'=true):RT.cell.V M w v v:=⟨[v],⟨rfl,h⟩,rfl⟩
theorem fX.cells {α:Type} {A:RT α} (hA:A.n=1) {M:aP} {w:World}:∀{xs:List α} {C:List Value},fX A M w xs C->∃ys:List Value,fX RT.cell M w ys C/\ys.length=xs.length
 |[],C,h=>⟨[],h,rfl⟩
 |x::xs,C,h=>by
  obtain⟨vs,r,h1,h2,h3⟩:=h;obtain⟨ys,h4,h5⟩:=fX.cells hA h3;have hl:=A.len h2
  match vs,hl,h1,h2 with
  |[v],_,h1,h2=>exact⟨v::ys,⟨[v],r,h1,⟨rfl,A.one h2 v (by simp)⟩,h4⟩,by simp[h5]⟩
  |[],hl,_,_=>simp at hl;omega
  |_::_::_,hl,_,_=>simp at hl;omega
theorem Own.cells {α:Type} {A:RT α} (hA:A.n=1) {e:TypeId} {M:aP} {w:World} {base:Nat} {v:Value} {xs:List α} (h:Own A e M w base v xs):∃ys:List Value,Own RT.cell e M w base v ys/\ys.length=xs.length:=by
 obtain⟨⟨C,hr,ha⟩,hm⟩:=h;obtain⟨ys,h1,h2⟩:=ha.cells hA;exact⟨ys,⟨⟨C,by rw[h2,show RT.cell.n=A.n from hA.symm];exact hr,h1⟩,hm⟩,h2⟩
def BR (bl bn:Nat) (n:Int) (ls:List (List Po)) (B:Nat) (i:Nat) (M:aP) (w:World):Prop:=∃vl,w.heap[bl]? =some (.cells #[vl] 249 (0,0))/\M bl/\B<=bl/\w.heap[bn]? =some (.cells #[.int .i64 n] 3 (0,0))/\M bn/\Own ((RT.li).ptr) 250 M w B vl ((ls.take i).map lJ)
theorem BR.br {bl bn:Nat} {n:Int} {ls:List (List Po)} {B i:Nat} {M M':aP} {w w':World} (h:BR bl bn n ls B i M w) (s:Step M w M' w' aH):BR bl bn n ls B i M' w':=by
 obtain⟨vl,h1,h2,h3,h4,h5,h6⟩:=h;exact⟨vl,s.aF h1,(s.mem _ (ah h1)).2 h2,h3,s.aF h4,(s.mem _ (ah h4)).2 h5,h6.br s⟩
theorem Yj {M:aP} {bl bn B i:Nat} {n:Int} {ls:List (List Po)} {x:List Po} {v0:Value} (w0:World) (hM:Lt M w0) (hB:B<=w0.heap.size) (hJ:BR bl bn n ls B i M w0) (hx:ls[i]? =some x) (hv:((RT.po).sl).V M w0 x v0) (hr:Room x) (qz:i<=1000000000) (hm:eJ (-1) x=true):
  Spec Tryz.prog 154 #[v0,.pointer (some ⟨bl,0,none⟩),.pointer (some ⟨bn,0,none⟩)] w0 (λv w=>∃M',Lt M' w/\v= .bool (oz n x)/\(oz n x=false->BR bl bn n ls B (i+1) M' w)/\Step M w0 M' w (l5 M B)):=by
 have hlen:=dJ hv;obtain⟨vl,gl,lx,hBl,gn,nq,ho⟩:=hJ;have nln:bl≠bn:=λh=>by rw[h,gn]at gl;simp at gl
 refine bD (args:=[_,_,_]) (fn:=Tryz.f154) Tryz.func154 G (n:=34) Tryz.ntmps154 ?_;have S:Step M w0 M w0 (l5 M B):=(bg).eE a30 (λ_ h=>h.2);refine T.aU (Rg.a8 G G (T.aU (ab G G ?_)));refine aV G G TF (xD hM hv hr.ps hr.by_ hr.ln hr.xd) (λr1 w1 hc=>?_);obtain⟨s1,fh,ka⟩:=hc;obtain⟨p,rfl,hp⟩:=fh hm;have:=ah gl;replace lx:=(s1.mem _ this).2 lx;replace gl:=s1.aF gl;have:=ah gn;replace nq:=(s1.mem _ this).2 nq;replace gn:=s1.aF gn;replace hv:=hv.le s1.le;replace ho:=ho.br s1;replace hM:=s1.lt hM;have:=S.size;replace S:=S.ar s1;refine ab G G (cP G G G (cP G G G (aJ G G (Rg.a8 G G (T.aU (aR fq G G G gl G (aZ (v':=vl) G (ab G G ?_))))))));refine dT (A:=((RT.li).ptr)) (hn:=by decide) (M:=M) fq tK q0 G G hM (JM.2 hp) (.inr ⟨G,G⟩) (λaj2 aj3 nr qJ=>?_);have:=ah gl;replace lx:=(qJ.mem _ this).2 lx;replace gl:=qJ.aF gl;have:=ah gn;replace nq:=(qJ.mem _ this).2 nq;replace gn:=qJ.aF gn;replace hv:=hv.le qJ.le;replace hp:=hp.le q0 qJ.le;replace ho:=ho.br qJ;replace hM:=qJ.lt hM;have:=S.size;replace S:=S.ar qJ;refine cI (M:=M) (base:=B) fq tK rfl rfl rfl rfl ho nr ck a06 a06 aj1 (λYk Ig aj4 PJ qK=>?_);have:=ah gl;replace lx:=(qK.mem _ this).2 lx;replace gl:=qK.bY gl (λh=>by first|exact ho.eN gl h|exact ho.fN gl q0 h|(have:=(ho.base _ h).1;omega));have:=ah gn;replace nq:=(qK.mem _ this).2 nq;replace gn:=qK.bY gn (λh=>by first|exact ho.eN gn h|exact ho.fN gn q0 h|(have:=(ho.base _ h).1;omega));replace hv:=hv.le qK.le;replace hp:=hp.le q0 qK.le;replace nr:=nr.le qK.le;replace hM:=qK.lt hM;have:=S.size
 replace S:=S.trans qK (λk hk h=>⟨(ho.base k h).1,(S.mem k hk).1 (ho.mut_ k h)⟩);replace ho:=PJ;refine cA (M:=Ig) Lw rfl rfl gl rfl a98 lx (λYl PK pb=>?_);change Yl.heap[_]? =some (Obj.cells #[Yk] _ _)at PK;have:=ah gl;replace lx:=(pb.mem _ this).2 lx;have:=ah gn;replace nq:=(pb.mem _ this).2 nq;replace gn:=pb.bY gn a05;replace hv:=hv.le pb.le;replace hp:=hp.le q0 pb.le;replace nr:=nr.le pb.le;replace ho:=ho.step pb (λc hc (h:c=bl)=>ho.fN gl q0 (h▸hc));replace hM:=pb.lt hM;have:=S.size;replace S:=S.trans pb (λk hk h=>by have h:_=_:=h;subst h;first|(exfalso;omega)|(show _<=_;omega)|exact⟨by first|omega|assumption,(S.mem _ hk).1 ((pb.mem _ (ah gl)).1 lx)⟩|exact .inl rfl|exact .inr rfl|exact .inr (.inl rfl)|exact .inr (.inr rfl)|exact .inr (.inr (.inl rfl))|exact rfl);have gl_:=PK;clear gl;have gl:=gl_;clear gl_;refine ad (aQ ?_);apply Bw mixed rfl rfl;intro wD3 sA3;have qC:=sA3 Ig;have:=ah gl;replace lx:=(qC.mem _ this).2 lx;replace gl:=qC.aF gl;have:=ah gn;replace nq:=(qC.mem _ this).2 nq;replace gn:=qC.aF gn;replace hv:=hv.le qC.le;replace hp:=hp.le q0 qC.le;replace nr:=nr.le qC.le;replace ho:=ho.br qC;replace hM:=qC.lt hM;have:=S.size;replace S:=S.ar qC;refine ab G G (Rg.dI (fG G G G (Rg.dI (ab G G (Rg.dI (Rg.G5 (g:=18) G (q0) (ae G G (ab G G (Rg.dI (ae G G (bR bK G hv G ?_)))))))))));refine Rg.dI (ae G G (je G G G (Rg.dI (au G G G (Rg.dI (ab G G (Rg.dI ?_)))))));refine aB (g:=23) G (λYm=>?_) (λYm=>?_)
 ·refine aj G G G G (Rg.dI (aj G G G G (Rg.dI (aj G G G G (Rg.dI (aj G G G G (Rg.dI (aj G G G G (Rg.dI (aj G G G G (Rg.dI ?_)))))))))));refine aj G G G G (Rg.dI (aj G G G G (Rg.dI (aj G G G G (Rg.dI (aN G G G (Rg.dI (aJ G G (Rg.dI (gV (aS ?_)))))))))))
  first
  |(have PL:oz n x=true:=by
     have:x=[]:=cG.1 hV;simp[oz,this]
    rw[PL];exact aT G G ⟨_,hM,G,(λh=>by cases h),S⟩)
  |(have fB:x.isEmpty=false:=by cases x with
     |nil=>simp at Ym
     |cons a t=>rfl
    have hbv:oz n x=decide (n<=q.1):=by unfold oz;rw[hm,fB,FX hq];rfl
    rw[hbv];exact aT rfl rfl ⟨_,hM,rfl,λ_=>⟨_,gl,lx,hBl,gn,nq,by rw[cj,hx,dS,eH];exact ho⟩,S⟩)
 ·refine ae G G (ab G G (Rg.dI (ae G G (ab G G (Rg.dI (ae G G (bR bK G hv G (Rg.dI (ae G G (iQ G G G hV (Rg.dI ?_)))))))))));refine ae G G ?_;obtain⟨q,hq⟩:∃q,x[x.length-1]? =some q:=⟨_,aq hV⟩;refine cD bK jx G G G hv ck hV (λu3 a Xu l3=>?_);obtain rfl:q=a:=aG (hq.symm.trans (by rw[show((x.length:Int)-1).toNat=x.length-1 from by omega]at Xu;exact Xu));refine Rg.dI (ae G G ?_);refine aw (M:=Ig) (A:=RT.po) (B:=RT.int .i64) cv G G I3 q0 (RA) G G q0 VR (by repeat (first|exact bB _ _|refine aW (bC VR) ?_)) (λaoY aj6=>?_);refine Rg.dI (ae G G ?_);refine bX (M:=Ig) al G G VR (by repeat (first|exact bB _ _|refine aW (bC VR) ?_)) (λPM=>?_);refine aZ (v':= .int .i64 (q.1)) G ?_;replace PM: -9223372036854775808<=(q.1:Int)/\q.1<=9223372036854775807:=PM;refine Rg.dI (ae G G (aR al G G G gn G (aZ (v':= .int .i64 n) G (Rg.dI (ae G G (cu G G G (Rg.dI (au G G G (Rg.dI (aJ G G (Rg.dI ?_)))))))))));refine gV (aS ?_)
  first
  |(have PL:oz n x=true:=by
     have:x=[]:=cG.1 hV;simp[oz,this]
    rw[PL];exact aT G G ⟨_,hM,G,(λh=>by cases h),S⟩)
  |(have fB:x.isEmpty=false:=by cases x with
     |nil=>simp at Ym
     |cons a t=>rfl
    have hbv:oz n x=decide (n<=q.1):=by unfold oz;rw[hm,fB,FX hq];rfl
    rw[hbv];exact aT rfl rfl ⟨_,hM,rfl,λ_=>⟨_,gl,lx,hBl,gn,nq,by rw[cj,hx,dS,eH];exact ho⟩,S⟩)
theorem TH {M:aP} {bl bn B i:Nat} {n:Int} {ls:List (List Po)} {x:List Po} {v0:Value} (w0:World) (hM:Lt M w0) (hB:B<=w0.heap.size) (hJ:BR bl bn n ls B i M w0) (hx:ls[i]? =some x) (hv:((RT.po).sl).V M w0 x v0) (hr:Room x) (qz:i<=1000000000) (hm:eJ (-1) x=false):
  Spec Tryz.prog 154 #[v0,.pointer (some ⟨bl,0,none⟩),.pointer (some ⟨bn,0,none⟩)] w0 (λv w=>∃M',Lt M' w/\v= .bool (oz n x)/\(oz n x=false->BR bl bn n ls B (i+1) M' w)/\Step M w0 M' w (l5 M B)):=by
 have hlen:=dJ hv;obtain⟨vl,gl,lx,hBl,gn,nq,ho0⟩:=hJ;have nln:bl≠bn:=λh=>by rw[h,gn]at gl;simp at gl
 obtain⟨ys,ho,ZW⟩:=ho0.cells rfl;rw[cg,bI]at ZW;clear ho0;refine bD (args:=[_,_,_]) (fn:=Tryz.f154) Tryz.func154 G (n:=34) Tryz.ntmps154 ?_;have S:Step M w0 M w0 (l5 M B):=(bg).eE a30 (λ_ h=>h.2);refine T.aU (Rg.a8 G G (T.aU (ab G G ?_)));refine aV G G TF (xD hM hv hr.ps hr.by_ hr.ln hr.xd) (λr1 w1 hc=>?_);obtain⟨s1,fh,ka⟩:=hc;obtain rfl:=ka hm;have:=ah gl;replace lx:=(s1.mem _ this).2 lx;replace gl:=s1.aF gl;have:=ah gn;replace nq:=(s1.mem _ this).2 nq;replace gn:=s1.aF gn;replace hv:=hv.le s1.le;replace ho:=ho.br s1;replace hM:=s1.lt hM;have:=S.size;replace S:=S.ar s1;refine ab G G (cP G G G (cP G G G (aJ G G (Rg.a8 G G (T.aU (aR fq G G G gl G (aZ (v':=vl) G (ab G G ?_))))))));refine dT (A:=RT.cell) (hn:=by decide) (M:=M) fq tK q0 G G hM (TG (v:= .pointer none) G) (.inr ⟨G,G⟩) (λaj2 aj3 nr qJ=>?_);have:=ah gl;replace lx:=(qJ.mem _ this).2 lx;replace gl:=qJ.aF gl;have:=ah gn;replace nq:=(qJ.mem _ this).2 nq;replace gn:=qJ.aF gn;replace hv:=hv.le qJ.le;replace ho:=ho.br qJ;replace hM:=qJ.lt hM;have:=S.size;replace S:=S.ar qJ;refine cI (M:=M) (base:=B) fq tK rfl rfl rfl rfl ho nr ck a06 a06 aj1 (λYk Ig aj4 PJ qK=>?_);have:=ah gl;replace lx:=(qK.mem _ this).2 lx;replace gl:=qK.bY gl (λh=>by first|exact ho.eN gl h|exact ho.fN gl q0 h|(have:=(ho.base _ h).1;omega));have:=ah gn;replace nq:=(qK.mem _ this).2 nq;replace gn:=qK.bY gn (λh=>by first|exact ho.eN gn h|exact ho.fN gn q0 h|(have:=(ho.base _ h).1;omega));replace hv:=hv.le qK.le;replace nr:=nr.le qK.le;replace hM:=qK.lt hM
 have:=S.size;replace S:=S.trans qK (λk hk h=>⟨(ho.base k h).1,(S.mem k hk).1 (ho.mut_ k h)⟩);replace ho:=PJ;refine cA (M:=Ig) Lw rfl rfl gl rfl a98 lx (λYl PK pb=>?_);change Yl.heap[_]? =some (Obj.cells #[Yk] _ _)at PK;have:=ah gl;replace lx:=(pb.mem _ this).2 lx;have:=ah gn;replace nq:=(pb.mem _ this).2 nq;replace gn:=pb.bY gn a05;replace hv:=hv.le pb.le;replace nr:=nr.le pb.le;replace ho:=ho.step pb (λc hc (h:c=bl)=>ho.fN gl q0 (h▸hc));replace hM:=pb.lt hM;have:=S.size;replace S:=S.trans pb (λk hk h=>by have h:_=_:=h;subst h;first|(exfalso;omega)|(show _<=_;omega)|exact⟨by first|omega|assumption,(S.mem _ hk).1 ((pb.mem _ (ah gl)).1 lx)⟩|exact .inl rfl|exact .inr rfl|exact .inr (.inl rfl)|exact .inr (.inr rfl)|exact .inr (.inr (.inl rfl))|exact rfl);have gl_:=PK;clear gl;have gl:=gl_;clear gl_;refine ad (aQ ?_);apply Bw mixed rfl rfl;intro wD3 sA3;have qC:=sA3 Ig;have:=ah gl;replace lx:=(qC.mem _ this).2 lx;replace gl:=qC.aF gl;have:=ah gn;replace nq:=(qC.mem _ this).2 nq;replace gn:=qC.aF gn;replace hv:=hv.le qC.le;replace nr:=nr.le qC.le;replace ho:=ho.br qC;replace hM:=qC.lt hM;have:=S.size;replace S:=S.ar qC;refine ab G G (Rg.dI (fG G G G (Rg.dI (ab G G (Rg.dI (Rg.ML (g:=18) G (q0) (aj G G G G (Rg.dI (aj G G G G (Rg.dI (aj G G G G ?_)))))))))));refine Rg.dI (aN G G G (Rg.dI (ab G G (Rg.dI (aj G G G G (Rg.dI (aj G G G G (Rg.dI (aj G G G G (Rg.dI (aj G G G G ?_)))))))))));refine Rg.dI (aj G G G G (Rg.dI (aj G G G G (Rg.dI (aj G G G G (Rg.dI (aj G G G G (Rg.dI (aj G G G G (Rg.dI (aN G G G ?_)))))))))))
 refine Rg.dI (aJ G G (Rg.dI (gV (aS ?_))));have PL:oz n x=true:=by simp[oz,hm]
 rw[PL];exact aT G G ⟨_,hM,G,(λh=>by cases h),S⟩
theorem PN {M:aP} {bl bn B i:Nat} {n:Int} {ls:List (List Po)} {x:List Po} {v0:Value} (w0:World) (hM:Lt M w0) (hB:B<=w0.heap.size) (hJ:BR bl bn n ls B i M w0) (hx:ls[i]? =some x) (hv:((RT.po).sl).V M w0 x v0) (hr:Room x) (qz:i<=1000000000):
  Spec Tryz.prog 154 #[v0,.pointer (some ⟨bl,0,none⟩),.pointer (some ⟨bn,0,none⟩)] w0 (λv w=>∃M',Lt M' w/\v= .bool (oz n x)/\(oz n x=false->BR bl bn n ls B (i+1) M' w)/\Step M w0 M' w (l5 M B)):=by
 cases hm:eJ (-1) x with
 |true=>exact Yj w0 hM hB hJ hx hv hr qz hm
 |false=>exact TH w0 hM hB hJ hx hv hr qz hm
end Go.K
namespace Go.K
open Go.Proofs
namespace TKBldH
theorem Lx:TI Tryz.prog 112 (.slice none 0 0) 1 24:=by unfold TI;kernel_rfl
theorem TL:TI Tryz.prog 114 (.agg #[(.slice none 0 0),(.slice none 0 0),(.slice none 0 0),(.slice none 0 0)]) 4 96:=by unfold TI;kernel_rfl
theorem aj7:TI Tryz.prog 215 (.agg #[(.slice none 0 0),(.slice none 0 0),(.pointer none)]) 3 56:=by unfold TI;kernel_rfl
theorem Lw:TI Tryz.prog 249 (.slice none 0 0) 1 24:=by unfold TI;kernel_rfl
theorem aj8:placesOf Tryz.prog 215=[(0,1),(1,1),(2,1)].map some:=by kernel_rfl
theorem Ln:Enters Tryz.prog 100:=enters Tryz.func100 rfl q0
theorem aj9:Enters Tryz.prog 101:=enters Tryz.func101 rfl q0
theorem aka:Enters Tryz.prog 153:=enters Tryz.func153 rfl q0
theorem akb:Enters Tryz.prog 154:=enters Tryz.func154 rfl q0
theorem akc:Enters Tryz.prog 156:=enters Tryz.func156 rfl q0
theorem akd:Enters Tryz.prog 157:=enters Tryz.func157 rfl q0
end TKBldH
open TKBldH
set_option maxRecDepth 10000
def Br (p:Pa):Bool:=decide (p.1.length=p.2.1.length)&&gw (-1) p.2.1&&p.2.2.2.all (λx=> !oz (p.1.length:Int) x)&&decide (p.2.2.1.length=p.2.2.2.length)&&FL none p.2.2.1
def Ih (p:Pa):Se:=(p.1,p.2.1,p.2.2.1,p.2.2.2.map lJ)
structure PO (p:Pa):Prop where
 a:p.1.length<=1000000000
 b:p.2.1.length<=1000000000
 c:p.2.2.1.length<=1000000000
 d:p.2.2.2.length<=1000000000
 e:∀x∈p.2.2.2,Room x
theorem Ii {M:aP} {p:Pa} {v0:Value} (w0:World) (hM:Lt M w0) (hv:RT.pa.V M w0 p v0) (hR:PO p):
  Spec Tryz.prog 101 #[v0] w0 (λv w=>Step M w0 M w aH/\(Br p=true->dp RT.se M w v (Ih p))/\(Br p=false->v= .pointer none)):=by
 have jq:=hM;obtain⟨hRa,hRb,hRc,hRd,hRe⟩:=hR;refine bD (args:=[_]) (fn:=Tryz.f101) Tryz.func101 G (n:=45) Tryz.ntmps101 ?_;have S:Step M w0 M w0 aH:=bg;refine T.aU ?_;refine fO (A:=RT.pa) G G hM hv G (λu0 w1 dP s0 _=>?_);replace hM:=s0.lt hM;have:=S.size;replace S:=S.ar s0;refine Rg.a8 G G (T.aU ?_);refine aw (M:=M) (A:=RT.pa) (B:=(RT.int .i64).sl) dD G G qB q0 (pa0) G G q0 VR (by repeat (first|exact bB _ _|refine aW (bC VR) ?_)) (λBH l2=>?_);refine bV (M:=M) aC G G G G G VR (by repeat (first|exact bB _ _|refine aW (bC VR) ?_)) (λzY nh=>?_);replace nh:((RT.int .i64).sl).V M _ p.1 zY:=nh;refine bR aC G nh G ?_;refine eu M I3 G (λyC KW aio aip kZ s1_3=>?_);obtain⟨nW,Ab⟩:∃M',M'=ins M yC:=⟨_,rfl⟩;rw[<-Ab]at s1_3;have ki:nW yC:=by rw[Ab];exact .inl G
 change KW.heap[yC]? =some (.cells #[.int .i64 0] _ _)at kZ;replace dP:=dP.le q0 s1_3.le;replace hM:=s1_3.lt hM;have:=S.size;replace S:=S.ar s1_3;refine cA (M:=nW) I3 G G kZ G (G) ki (λW5 TM nd=>?_);change W5.heap[_]? =some (Obj.cells #[.int .i64 (p.1.length:Int)] _ _)at TM;have:=ah kZ;replace ki:=(nd.mem _ this).2 ki;replace dP:=dP.le q0 nd.le;replace hM:=nd.lt hM;have:=S.size;replace S:=S.trans nd (λk hk h=>by have h:_=_:=h;subst h;first|(exfalso;omega)|(show _<=_;omega)|exact⟨by first|omega|assumption,(S.mem _ hk).1 ((nd.mem _ (ah kZ)).1 ki)⟩|exact .inl rfl|exact .inr rfl|exact .inr (.inl rfl)|exact .inr (.inr rfl)|exact .inr (.inr (.inl rfl))|exact rfl);have E8:=TM;clear kZ;have kZ:=E8;clear E8;refine ad (aQ (T.aU ?_));refine aw (M:=nW) (A:=RT.pa) (B:=(RT.int .i64).sl) dD G G qB q0 (pa1) G G q0 VR (by repeat (first|exact bB _ _|refine aW (bC VR) ?_)) (λatp ao0=>?_);refine bV (M:=nW) aC G G G G G VR (by repeat (first|exact bB _ _|refine aW (bC VR) ?_)) (λake PQ=>?_);replace PQ:((RT.int .i64).sl).V nW _ p.2.1 ake:=PQ;refine bR aC G PQ G (aR al G G G kZ G (aZ (v':= .int .i64 (p.1.length:Int)) G (fG G G G (ab G G ?_))));refine aB (g:=16) G (λakf=>?_) (λakf=>?_)
 ·refine aj G G G G (aj G G G G (aj G G G G (aj G G G G (aN G G G (ad (iz G (T.aU (Rg.a8 G G (aS ?_)))))))))
  have eb:Br p=false:=by
   unfold Br
   first
   |(rw[decide_eq_false (show¬p.1.length=p.2.1.length by omega)];simp;done)
   |(simp[c2];done)
  exact aT rfl rfl ⟨S.back,λh=>by(rw[eb]at h;cases h),λ_=>rfl⟩
 ·have JY:p.1.length=p.2.1.length:=by omega
  refine ae G G ?_;refine aw (M:=nW) (A:=RT.pa) (B:=(RT.int .i64).sl) dD G G qB q0 (pa1) G G q0 VR (by repeat (first|exact bB _ _|refine aW (bC VR) ?_)) (λatq ao1=>?_);refine ae G G ?_;refine bV (M:=nW) aC G G G G G VR (by repeat (first|exact bB _ _|refine aW (bC VR) ?_)) (λakg PR=>?_);replace PR:((RT.int .i64).sl).V nW _ p.2.1 akg:=PR;refine ae G G ?_;refine aV G G aka (Lq _ PR) (λr wc hc=>?_);obtain⟨rfl,rfl⟩:=hc;refine ae G G (jd G G (aZ (v':= .bool (decide (¬gw (-1) p.2.1=true))) (by simp) (au G G G (ad ?_))));refine bH G (λc2=>?_) (λc2=>?_)
  ·refine T.aU (Rg.a8 G G (aS ?_))
   have eb:Br p=false:=by
    unfold Br
    first
    |(rw[decide_eq_false (show¬p.1.length=p.2.1.length by omega)];simp;done)
    |(simp[c2];done)
   exact aT rfl rfl ⟨S.back,λh=>by(rw[eb]at h;cases h),λ_=>rfl⟩
  ·have er:gw (-1) p.2.1=true:=cF.1 c2;refine aM (T.aU ?_);refine eu nW Lw G (λPS N1 atr att EW l1=>?_);obtain⟨JZ,PT⟩:∃M',M'=ins nW PS:=⟨_,rfl⟩;rw[<-PT]at l1;have Yn:JZ PS:=by rw[PT];exact .inl G
   change N1.heap[PS]? =some (.cells #[.slice none 0 0] _ _)at EW;have:=ah kZ;replace ki:=(l1.mem _ this).2 ki;replace kZ:=l1.aF kZ;replace dP:=dP.le q0 l1.le;replace hM:=l1.lt hM;have:=S.size;replace S:=S.ar l1;refine ad (T.aU (jQ (xs:=[]) (ys:=[.tmp 4,.tmp 3]) G G G (Rg.a8 G G (aQ (T.aU ?_)))));refine aw (M:=JZ) (A:=RT.pa) (B:=((RT.po).sl).sl) dD G G Lx q0 (pa3) G G q0 VR (by repeat (first|exact bB _ _|refine aW (bC VR) ?_)) (λXo E9=>?_);refine bV (M:=JZ) Tryz.underlying112 G G G G G VR (by repeat (first|exact bB _ _|refine aW (bC VR) ?_)) (λXp Ac=>?_);replace Ac:(((RT.po).sl).sl).V JZ _ p.2.2.2 Xp:=Ac;refine ab G G ?_;refine aV G G akc (BQ (cap:=[.pointer (some ⟨PS,0,none⟩),.pointer (some ⟨yC,0,none⟩)]) (B:=w0.heap.size) (J:=BR PS yC (p.1.length:Int) p.2.2.2 w0.heap.size) (bad:=oz (p.1.length:Int)) _ hM Ac akb ⟨_,EW,Yn,by omega,kZ,ki,ep _ _ _ _ _⟩ (λi M w M' w' h s=>h.br s) (λi M w x vx hJ hM hx zW=>PN w hM (by obtain⟨_,h1,_,h2,_⟩:=hJ;have:=ah h1;omega) hJ hx zW (hRe x (ao hx)) (by have:=(ak.1 hx).1;omega))) (λr6 w6 hc=>?_);obtain⟨M6,k6,rfl,hk6,Pt,s6,hk7,Yo⟩:=hc;replace dP:=dP.le q0 s6.le;replace S:=S.mJ s6 (aK _);refine ad ?_;refine bH G (λc6=>?_) (λc6=>?_)
   ·obtain⟨x6,hx6,sF⟩:=Yo c6
    have eb:Br p=false:=by
     unfold Br;have:p.2.2.2.all (λx=> !oz (p.1.length:Int) x)=false:=List.all_eq_false.2 ⟨x6,hx6,by simp[sF]⟩;simp[this]
    refine T.aU (Rg.a8 G G (aS ?_));exact aT rfl rfl ⟨S.back,λh=>by(rw[eb]at h;cases h),λ_=>rfl⟩
   ·refine aM (T.aU ?_);obtain⟨sF,⟨vl,gl,_,_,_,_,lM⟩⟩:=hk7 hV;rw[bM (aK _)]at lM;have mz:(((RT.li).ptr).sl).V M w6 (p.2.2.2.map lJ) vl:=lM.close jq S a06;replace dP:dp RT.pa M w6 u0 p:=dP.le q0 (pz jq S);replace S:=S.back;replace hM:=S.lt jq;refine aw (A:=RT.pa) (B:=RT.str.sl) dD G G x8 q0 pa2 G G q0 dP ck (λatv ao3=>?_);refine bV (M:=M) aI G G G G G VR (by repeat (first|exact bB _ _|refine aW (bC VR) ?_)) (λakh PU=>?_);replace PU:(RT.str.sl).V M _ p.2.2.1 akh:=PU;refine aR fq G G G gl G (aZ (v':=vl) G ?_);refine aV G G akd (H3 _ hM PU mz hV a06) (λr8 w8 hc=>?_);obtain⟨pd,rfl,RH,s8⟩:=hc;replace dP:=dP.le q0 s8.le;replace mz:=mz.le s8.le;replace gl:=s8.aF gl;replace hM:=s8.lt hM;have:=S.size;replace S:=S.ar s8;refine ab G G (cP G G G (cP G G G (aJ G G (Rg.a8 G G (aQ (T.aU (ab G G (fG G G G (ad ?_)))))))));refine bH G (λc9=>?_) (λc9=>?_)
    ·have eb:Br p=false:=by
      by_cases h:Br p=true
      ·unfold Br at h;simp only[cC,decide_eq_true_eq]at h;exact absurd (by rw[if_pos ⟨by simp[h.1.2],h.2⟩]) c9
      ·simpa using h
     refine T.aU (Rg.a8 G G (aS ?_));exact aT rfl rfl ⟨S.back,λh=>by(rw[eb]at h;cases h),λ_=>rfl⟩
    ·have e9:(p.2.2.1.length=(p.2.2.2.map lJ).length/\FL none p.2.2.1=true):=by
      by_cases h:(p.2.2.1.length=(p.2.2.2.map lJ).length/\FL none p.2.2.1=true)
      ·exact h
      ·exact absurd (by rw[if_neg h];decide) c9
     replace RH:=RH e9.1 e9.2;refine aM (aQ ?_);apply T.UB [0,1,3,4,6,2,5,7,8,9] 5 [2,3,4] 2 aH mixed
     ·simp+decide only[B7,wY,fx,Bs,Bo,Bp,wI,fP,qO,List.idxOf_cons,cond_true,cond_false,Nat.reduceBEq,Nat.reduceAdd,beq_self_eq_true];rfl
     ·rfl
     ·rfl
     ·rfl
     ·rfl
     ·rfl
     ·rfl
     intro FI XN;have eg:=XN M;replace dP:=dP.le q0 eg.le;replace mz:=mz.le eg.le;replace gl:=eg.aF gl;replace hM:=eg.lt hM;have:=S.size;replace S:=S.ar eg;refine aw (M:=M) (A:=RT.pa) (B:=(RT.int .i64).sl) dD G G qB q0 (pa0) G G q0 VR (by repeat (first|exact bB _ _|refine aW (bC VR) ?_)) (λUZ Ot=>?_);refine Rg.dI ?_;refine bV (M:=M) aC G G G G G VR (by repeat (first|exact bB _ _|refine aW (bC VR) ?_)) (λacW Ij=>?_);replace Ij:((RT.int .i64).sl).V M _ p.1 acW:=Ij;refine Rg.dI ?_;refine aw (M:=M) (A:=RT.pa) (B:=(RT.int .i64).sl) dD G G qB q0 (pa1) G G q0 VR (by repeat (first|exact bB _ _|refine aW (bC VR) ?_)) (λVk iO=>?_);refine Rg.dI ?_;refine bV (M:=M) aC G G G G G VR (by repeat (first|exact bB _ _|refine aW (bC VR) ?_)) (λacX p8=>?_);replace p8:((RT.int .i64).sl).V M _ p.2.1 acX:=p8;refine Rg.dI (ab G G (Rg.dI (gV ?_)));obtain⟨bb,oo,cs,ee,fr,rfl,oO,_⟩:=iO.float;refine ⟨kV ⟨kE dD G qB q0,⟨gX G oO (λh=>h),⟨ti,trivial⟩⟩⟩,?_⟩;have kp:=nH aH FI;refine aV G G Ln (Al hM Ij hV) (λv5 w5 hc=>?_);obtain⟨qT,s5⟩:=hc;replace p8:=p8.le s5.le;replace RH:=(RH.le q0 eg.le).le q0 s5.le;replace dP:=dP.le q0 s5.le;replace mz:=mz.le s5.le;replace gl:=s5.aF gl;replace hM:=s5.lt hM;have:=S.size;replace S:=S.ar s5;refine(fun(kp:ga _ _ _)=>ad ⟨G,G,λ_=>kp,?_⟩) a02
     refine aV G G Ln (Al hM p8 hV) (λv6 w6' hc=>?_);obtain⟨qE,Vl⟩:=hc;replace dP:=dP.le q0 Vl.le;replace mz:=mz.le Vl.le;replace qT:=qT.le Vl.le;replace p8:=p8.le Vl.le;replace RH:=RH.le q0 Vl.le;replace gl:=Vl.aF gl;replace hM:=Vl.lt hM;have:=S.size;replace S:=S.ar Vl;refine(fun(kp:ga _ _ _)=>ad ⟨G,G,λ_=>kp,?_⟩) a02;refine cx (places:=[(0,1),(1,1),(2,1)]) Tryz.underlying215 aj7 aj8 rfl ⟨_,_,rfl,rfl,_,_,rfl,rfl,_,_,rfl,rfl,rfl⟩ (out:=[_,_,_]) ⟨0,[_],rfl,ic qT,by simp[Value.cells],1,[_],rfl,ic qE,by simp[Value.cells],2,[_],rfl,Cz RH,by simp[Value.cells],rfl⟩ (ad ⟨rfl,rfl,λh=>absurd rfl h,?_⟩);refine fO (A:=RT.se) (a:=Ih p) G G hM (aiL (x:=Ih p) qT qE RH) G (λu8 w8' hu8 TN _=>?_);replace dP:=dP.le q0 TN.le;replace mz:=mz.le TN.le;replace qT:=qT.le TN.le;replace p8:=p8.le TN.le;replace RH:=RH.le q0 TN.le;replace qE:=qE.le TN.le;replace gl:=TN.aF gl;replace hM:=TN.lt hM;have:=S.size;replace S:=S.ar TN;refine ad ⟨G,G,λh=>absurd G h,aJ G G (ad ⟨G,G,λh=>absurd G h,tf (aS ?_)⟩)⟩
     have eb:Br p=true:=by
      unfold Br;rw[decide_eq_true JY,er,e9.2,decide_eq_true (by simpa using e9.1),eI.2 (λx hx=>by simp[sF x hx])];rfl
     exact aT rfl rfl ⟨S.back,λ_=>hu8,λh=>by(rw[eb]at h;cases h)⟩
theorem Ik {M:aP} {p:Pa} {v0:Value} (w0:World) (hM:Lt M w0) (hv:RT.pa.V M w0 p v0) (hR:PO p):
  Spec Tryz.prog 52 #[v0] w0 (λv w=>Step M w0 M w aH/\(Br p=true->∃s,v= .tuple #[s,.int .i64 0]/\dp RT.se M w s (Ih p))/\(Br p=false->v= .tuple #[.pointer none,.int .i64 1])):=by
 refine bD (args:=[_]) (fn:=Tryz.f52) Tryz.func52 G (n:=10) Tryz.ntmps52 ?_;have S:Step M w0 M w0 aH:=bg;refine T.aU ?_;refine fO (A:=RT.pa) G G hM hv G (λu0 w1 dP s0 _=>?_);replace hM:=s0.lt hM;have:=S.size;replace S:=S.ar s0;refine aJ G G (Rg.a8 G G (T.aU ?_));refine cq (A:=RT.pa) dD G TL q0 G G G dP ck (λv1 sz=>?_);refine aV G G aj9 (Ii _ hM sz hR) (λr1 w2 hc=>?_);obtain⟨s2,fh,ka⟩:=hc
 obtain⟨o1,ho1⟩:∃o,r1= .pointer o:=by
  cases h:Br p with
  |true=>obtain⟨b,o,_,h1,_⟩:=fh h;exact⟨_,h1⟩
  |false=>exact⟨none,ka h⟩
 subst ho1;replace dP:=dP.le q0 s2.le;replace hM:=s2.lt hM;have:=S.size;replace S:=S.ar s2;refine Rg.a8 G G (aQ (T.aU (ab G G (Rg.Nr Tryz.underlying31 G G G (ad ?_)))));refine bH G (λc2=>?_) (λc2=>?_)
 ·refine T.aU (aJ G G (Rg.a8 G G (aS ?_)))
  have eb:Br p=false:=by
   by_cases h:Br p=true
   ·obtain⟨b,o,_,h1,_⟩:=fh h;rw[c2]at h1;cases h1
   ·simpa using h
  exact fk rfl rfl rfl ⟨S.back,λh=>by(rw[eb]at h;cases h),λ_=>rfl⟩
 ·refine aM (T.aU (ab G G (aJ G G (Rg.a8 G G (aS ?_)))))
  have eb:Br p=true:=by
   by_cases h:Br p=true
   ·exact h
   ·have:=ka a84;simp at this;exact absurd this c2
  exact fk rfl rfl rfl ⟨S.back,λ_=>⟨_,rfl,fh eb⟩,λh=>by(rw[eb]at h;cases h)⟩
end Go.K
namespace Go.K
section
variable {P:Program} {r:Option Nat} {n:Nat} {L:Sl} {ds:List Deferred} {w:World} {K:Kt} {M:aP} {F:List (Nat×aP)}
def vL (l:List Oper) (m q d:Nat):Bool:=
 Nat.blt q m&&nS l [q] m ((l[m]?.map du).getD [])&&lS l (m+1)&&
 ((List.range' m (l.length-m)).all λj=>match l[j]? with
  |some o=>tC o.op&&(!(asks l o).contains d||(du o).contains q)
  |none=>true)
theorem yj {l:List Oper} {m q d:Nat} (h:vL l m q d=true):q<m/\nS l [q] m ((l[m]?.map du).getD [])=true/\lS l (m+1)=true/\∀j o,m<=j->l[j]? =some o->tC o.op=true/\(d∈asks l o->q∈du o):=by
 simp only[vL,cC,Nat.blt_eq]at h;obtain⟨⟨⟨h1,h2⟩,h3⟩,h4⟩:=h;refine ⟨h1,h2,h3,λj o hj ho=> ?_⟩;have eU:=(ak.1 ho).1;have:=eI.1 h4 j (List.mem_range'_1.2 ⟨hj,by omega⟩);rw[ho]at this;simp only[cC,Bool.or_eq_true,tg,gu]at this;refine ⟨this.1,λhd=> ?_⟩;rcases this.2 with h|h
 ·rw[<-Bool.not_eq_true,gu]at h;exact absurd hd h
 ·exact h
structure TJ (P:Program) (r:Option Nat) (n:Nat) (l:List Oper) (m q d:Nat) (c:Value) (Gs:List (Nat×Nat×(Value->Prop))) (L:Sl) (K:Kt) (ds:List Deferred) (D:Nat->Prop) (a:Act) (w:World) (p:Nat) (ac:Act) (Lp:Sl) (wq:World):Prop where
 p0:m<=p
 p1:p<=l.length
 dt:∀i,i<l.length->i≠q->(D i↔i<p)
 ag:jf n ac Lp ds
 tr:wV P r n l.toArray aH wq K 0 (l.drop p) Lp ds w
 yes:D q->a=ac
 no: ¬D q->ac=a.put (some d) c/\∀t u,(lk (kK l q L) t=some u->a.tmps[t]? =some u)
 fl: ¬D q->∀g∈Gs,∃v,a.tmps[g.2.1]? =some v/\g.2.2 v
theorem put_comm (a:Act) {d:Nat} {e:Option Nat} (h:e≠some d) (c v:Value):(a.put (some d) c).put e v=(a.put e v).put (some d) c:=by
 cases e with
 |none=>rfl
 |some e=>
  have fB:e≠d:=λh'=>h (by rw[h'])
  simp only[Act.put];congr 1;apply Array.ext_getElem?;intro i;simp only[dG,Array.size_setIfInBounds];by_cases h1:e=i<;>by_cases h2:d=i<;>simp_all
theorem CB (a:Act) {d t:Nat} (c:Value) (h:t≠d):(a.put (some d) c).tmps[t]? =a.tmps[t]? :=by rw[ij,if_neg (λe=>h (by injection e with e;exact e.symm))]
theorem TJ.next {l:List Oper} {m q d:Nat} {c:Value} {Gs:List (Nat×Nat×(Value->Prop))} (hG:∀g∈Gs,∃o,l[g.1]? =some o/\o.dst=some g.2.1/\g.1<m) (dU:fm l 0=true) (fh:vL l m q d=true) {oq:Oper} (hq:l[q]? =some oq) (Il:oq.dst=some d) (Yp:kd oq.op=true) (TO:oq.guard=none)
  (jg:∀(ρ:Operand->Value) w,(∀x u,ev (kK l q L) x=some u->ρ x=u)->(∀g∈Gs,g.2.2 (ρ (.tmp g.2.1)))->(execOp ρ oq).run P w= .ok (.value c) w)
  {Q:Exit->Act->World->Prop} {D:Nat->Prop} {a:Act} {w:World} {j:Nat} {o:Oper} {rest:List Nat} (ho:l[j]? =some o) (pC: ¬D j) (hp:∀k∈du o,D k) {p:Nat} {ac:Act} {Lp:Sl} {wq:World} (hi:TJ P r n l m q d c Gs L K ds D a w p ac Lp wq)
  (hk:∀a' w',(∃p ac Lp wq,TJ P r n l m q d c Gs L K ds (λi=>i=j\/D i) a' w' p ac Lp wq)->wpOpsIn (FW r) 0 P l.toArray Q rest a' w'):wpOpsIn (FW r) 0 P l.toArray Q (j::rest) a w:=by
 obtain⟨hqm,_,C5,uF⟩:=yj fh;have qw:=(ak.1 ho).1;by_cases hjq:j=q
 ·subst hjq;rw[hq]at ho;cases ho;obtain⟨J0,lE⟩:=hi.no pC;refine One.run (by simpa using hq) Yp (v:=c) ?_ (hk _ _ ⟨p,ac,Lp,wq,hi.p0,hi.p1,λi h1 h2=>⟨λh=>(hi.dt i h1 h2).1 (h.resolve_left h2),λh=> .inr ((hi.dt i h1 h2).2 h)⟩,hi.ag,hi.tr,λ_=>by rw[J0,Il],λh=>absurd (.inl rfl) h,λh=>absurd (.inl rfl) h⟩);unfold One;rw[if_pos (by simp[Region.wanted,TO])];refine jg a.eval w (λx u hx=>?_) (λg hg=>by obtain⟨v,h1,h2⟩:=hi.fl pC g hg;simpa[Act.eval,h1]using h2)
  cases x with
  |tmp t=>simp only[ev]at hx;simp[Act.eval,lE t u hx]
  |const v=>simp only[ev]at hx;cases hx;rfl
  |global g=>simp only[ev]at hx;cases hx;rfl
  |func f=>simp only[ev]at hx;cases hx;rfl
 ·have hjp:j=p:=by
   have h1:p<=j:=by
    rcases cT j p with h|h
    ·exact absurd ((hi.dt j qw hjq).2 h) pC
    ·exact h
   have:=hi.p0;rcases cT m j with h|h
   ·have h2:=hp _ (mL C5 (j:=j) hV ho);have:=(hi.dt (j-1) hV hV).1 h2;omega
   ·omega
  subst hjp;obtain⟨hto,hta⟩:=uF j o hi.p0 ho;have C4:o.dst≠some d:=λh=>hjq (fZ dU ho hq h Il)
  have Eb:∀t∈asks l o,a.tmps[t]? =ac.tmps[t]? :=λt ht=>by
   by_cases hD:D q
   ·rw[hi.yes hD]
   ·rw[(hi.no hD).1,CB];rintro rfl;exact hD (hp q (hta ht))
  obtain⟨Ms,uC⟩:=oN Eb
  have hdf:a.defers=ac.defers:=by
   by_cases hD:D q
   ·rw[hi.yes hD]
   ·rw[(hi.no hD).1,put_defers]
  have B6:=hi.tr;rw[fe qw,(ak.1 ho).2]at B6;have h1:=Rg.run B6 ac hi.ag;refine Es (by simpa using ho) hto Ms uC hdf h1 (λe a w ⟨_,_,_,he,_⟩=>he) (λv w' ⟨L',qv,hA,_,Nc,_,Wk⟩=>?_) (λd' w' ⟨L',qv,hA,_,Nc,_⟩=>?_)
  ·rw[Nc]at hA;refine hk _ _ ⟨j+1,ac.put o.dst v,L',wq,by have:=hi.p0;omega,by omega,λi h3 h4=>?_,hA,Wk,λh=>?_,λh=>?_,λh g hg=>?_⟩
   ·constructor
    ·rintro(h|h)
     ·omega
     ·have:=(hi.dt i h3 h4).1 h;omega
    ·intro h;rcases qW (show i<=j by omega)with h5|h5
     ·exact .inl h5
     ·exact .inr ((hi.dt i h3 h4).2 h5)
   ·rw[hi.yes (h.resolve_left (λe=>hjq e.symm))]
   ·have hD: ¬D q:=λh'=>h (.inr h')
    obtain⟨J0,lE⟩:=hi.no hD;refine ⟨by rw[J0,put_comm a C4],λt u ht=> ?_⟩;obtain⟨h3,h4⟩:=ku (f:=lG l q) ht;rw[ij,if_neg,lE t u ht];intro e;simp only[lG,eI]at h3;have:=h3 o (ao ho);simp only[e,beq_self_eq_true,Bool.not_true,Bool.false_or,gu]at this;exact hD (hp q this)
   ·obtain⟨v',h1,h2⟩:=hi.fl (λh'=>h (.inr h')) g hg;obtain⟨og,g1,g2,g3⟩:=hG g hg;refine⟨v',?_,h2⟩;rw[ij,if_neg,h1];intro e;have:=fZ dU ho g1 e g2;have:=hi.p0;omega
  ·have h3:=hA.defers;rw[put_defers,Nc]at h3;have h4:=congrArg List.length h3;rw[hi.ag.defers]at h4;simp at h4
theorem jT.Yq {l:List Oper} {wd:World} (m q d:Nat) (c:Value) {oq:Oper} (F:List (Nat×aP)) (S:List (cy M)) (Gs:List (Nat×Nat×(Value->Prop))) (Wi:S.length=m) (ze:Nat.blt m l.length=true) (dU:fm l 0=true) (fh:vL l m q d=true)
  (hq:l[q]? =some oq) (Il:oq.dst=some d) (Yp:kd oq.op=true) (TO:oq.guard=none) (hS:S[q]? =some (cy.eq c)) (jg:∀(ρ:Operand->Value) w,(∀x u,ev (kK l q L) x=some u->ρ x=u)->(∀g∈Gs,g.2.2 (ρ (.tmp g.2.1)))->(execOp ρ oq).run P w= .ok (.value c) w)
  (hG:∀g∈Gs,∃o s,l[g.1]? =some o/\o.dst=some g.2.1/\g.1<m/\g.1≠q/\S[g.1]? =some s/\∀v w,s.p v w->g.2.2 v) (qZ:∀p∈F,∀b,p.2 b->M b) (hFq:∀p∈F,p.1≠q) (xV:Em F l S) (ie:bO P r n F wd l S ds L l S 0)
  (kL:∀w',Step M wd M w' (j5 (F.map (·.2)))->iS w' (λacc=>wV P r n l.toArray aH w' K 0 (l.drop m) (acc++kK l l.length L) ds w') l S []):jT P r n l L ds wd K:=by
 intro a0 ha;obtain⟨hqm,Nd,C5,uF⟩:=yj fh;have acY:m<l.length:=by simpa[Nat.blt_eq]using ze
 have start:∀(D:Nat->Prop) a w,(∀i,i<m->i≠q->D i)->(∀i,m<=i->i<l.length->¬D i)->(∀i o,l[i]? =some o->D i->∀k∈du o,D k)->Inv F S l wd L ds n (λi=>D i/\i<l.length) a w->∃p ac Lp wq,TJ P r n l m q d c Gs L K ds D a w p ac Lp wq:=by
  intro D a w iR ka kW hi
  obtain⟨ac,J0⟩:∃ac,(D q->a=ac)/\(¬D q->ac=a.put (some d) c):=by
   by_cases hD:D q
   ·exact⟨a,λ_=>G,λh=>absurd hD h⟩
   ·exact⟨_,λh=>absurd h hD,λ_=>G⟩
  have hqn:d<n\/n<=d:=cT d n
  have nE:n<=ac.tmps.size:=by
   by_cases hD:D q
   ·rw[<-J0.1 hD];exact hi.size
   ·rw[J0.2 hD,oL];exact hi.size
  have hdf:ac.defers=ds:=by
   by_cases hD:D q
   ·rw[<-J0.1 hD];exact hi.defers
   ·rw[J0.2 hD,put_defers];exact hi.defers
  have PV:∀t,t≠d->ac.tmps[t]? =a.tmps[t]? :=λt ht=>by
   by_cases hD:D q
   ·rw[<-J0.1 hD]
   ·rw[J0.2 hD,CB a c ht]
  have aki:d<a.tmps.size:=by
   have hg:=ie.take.get q oq (by rw[dR,Wi,if_pos hqm];exact hq);by_cases hD:D q
   ·obtain⟨v,h1,_⟩:=hi.done q oq (cy.eq c) d hq hS ⟨hD,by omega⟩ Il;exact(Array.getElem?_eq_some_iff.1 h1).1
   ·refine Classical.byContradiction λMr=> ?_
    obtain⟨s,hs,acZ⟩:=hg;rw[oH]at acZ;rw[hS]at hs;cases hs
    have hpq:∀k∈du oq,D k:=λk hk=>by
     have:=dL dU q oq hq k hk;exact iR k hV hV
    have:=Inv.next (r:=r) (P:=P) hi dU xV qZ (rest:=[]) (Q:=λ_ a' _=>n<=a'.tmps.size/\∃v,a'.tmps[d]? =some v) ⟨cy.eq c,hS,acZ⟩ hq (λh=>hD h.1) (λk hk=>⟨hpq k hk,by have:=dL dU q oq hq k hk;omega⟩) (λa' w' lC=>by
     obtain⟨v,h1,_⟩:=lC.done q oq (cy.eq c) d hq hS (.inl rfl) Il;exact⟨lC.size,v,h1⟩)
    have wR:One P r l.toArray w oq a c:=by
     unfold One;rw[if_pos (by simp[Region.wanted,TO])]
     refine jg a.eval w (λx u hx=>?_) (λg hg=>by
      obtain⟨o,s,g1,g2,g3,g4,g5,g6⟩:=hG g hg;obtain⟨v,h1,h2⟩:=hi.done _ o s _ g1 g5 ⟨iR _ g3 g4,by omega⟩ g2;simpa[Act.eval,h1]using g6 _ _ h2)
     have lE:∀t u,lk (kK l q L) t=some u->a.tmps[t]? =some u:=λt u ht=>by
      obtain⟨h3,h4⟩:=ku (f:=lG l q) ht;refine hi.base t u h4 λi o iY Ed he=> ?_
      simp only[lG,eI]at h3;have:=h3 o (ao iY);simp only[he,beq_self_eq_true,Bool.not_true,Bool.false_or,gu]at this;exact hD (kW i o iY Ed.1 q this)
     cases x with
     |tmp t=>simp only[ev]at hx;simp[Act.eval,lE t u hx]
     |const v=>simp only[ev]at hx;cases hx;rfl
     |global g=>simp only[ev]at hx;cases hx;rfl
     |func f=>simp only[ev]at hx;cases hx;rfl
    simp only[wpOpsIn,mE,hq]at this;rw[if_pos (by simp[Region.wanted,TO])]at this;obtain⟨_,h2⟩:=this;unfold One at wR;rw[if_pos (by simp[Region.wanted,TO])]at wR;rw[Oper.semAt_eq _ _ _ (mO Yp),wR]at h2;rw[Oper.uponIn_value]at h2;obtain⟨_,v,h3⟩:=h2;rw[Il]at h3;have:=(Array.getElem?_eq_some_iff.1 h3).1;simp[Act.put]at this;exact Mr this
  have akj:∃v,ac.tmps[d]? =some v/\v=c:=by
   by_cases hD:D q
   ·rw[<-J0.1 hD];obtain⟨v,h1,h2⟩:=hi.done q oq (cy.eq c) d hq hS ⟨hD,by omega⟩ Il;exact⟨v,h1,h2⟩
   ·refine⟨c,?_,G⟩;rw[J0.2 hD,ij,if_pos rfl];simp[dG,aki]
  have jh:∀{i:Nat} {o:Oper},(l.take m)[i]? =some o->l[i]? =some o/\i<m:=λ{i o} h=>by
   rw[dR]at h
   split at h
   ·exact⟨h,by assumption⟩
   ·cases h
  have lF:Step M wd M w (j5 (F.map (·.2))):=hi.step.eE (λb ⟨p,hp,hD,hb⟩=>fY.2 ⟨p.2,cO.2 ⟨p,hp,rfl⟩,hb⟩) (λb hb=>by
   obtain⟨N,hN,Ec⟩:=fY.1 hb;obtain⟨p,hp,rfl⟩:=cO.1 hN;exact qZ p hp b Ec)
  have hE:=(kL w lF).take;rw[Wi]at hE
  obtain⟨acc,h1,h2⟩:=iS.use (a:=ac) (l.take m) S [] (λi o s h1 h2 h3=>by
    obtain⟨h4,h5⟩:=jh h1;by_cases Vm:i=q
    ·subst Vm;rw[hq]at h4;cases h4;rw[Il]at h3;cases h3
    ·exact hi.fin i o s h4 h2 ⟨iR i h5 Vm,by omega⟩ h3)
   (λi o s e h1 h2 h3=>by
    obtain⟨h4,h5⟩:=jh h1;by_cases Vm:i=q
    ·subst Vm;rw[hq]at h4;cases h4;rw[Il]at h3;cases h3;rw[hS]at h2;cases h2;exact akj
    ·obtain⟨v,h6,h7⟩:=hi.done i o s e h4 h2 ⟨iR i h5 Vm,by omega⟩ h3;exact⟨v,by rw[PV e (λhe=>Vm (fZ dU h4 hq h3 (by rw[Il,he])))];exact h6,h7⟩)
   (λt v h=>by simp[lk]at h) hE
  refine⟨m,ac,_,w,aK _,by omega,λi h3 h4=>⟨λh=>?_,λh=>iR i h h4⟩,⟨nE,hdf,λt v h=>?_⟩,h1,J0.1,λhD=>⟨J0.2 hD,λt u ht=>?_⟩,λhD g hg=>by
   obtain⟨o,s,g1,g2,g3,g4,g5,g6⟩:=hG g hg;obtain⟨v,h1,h2⟩:=hi.done _ o s _ g1 g5 ⟨iR _ g3 g4,by omega⟩ g2;exact⟨v,h1,g6 _ _ h2⟩⟩
  ·rcases cT i m with h5|h5
   ·exact h5
   ·exact absurd h (ka i h5 h3)
  ·rcases mv h with h|h
   ·exact h2 t v h
   ·obtain⟨h3,h4⟩:=ku (f:=lG l l.length) h
    have fB:∀(i:Nat) (o:Oper),l[i]? =some o->o.dst≠some t:=λi o iY he=>by
     simp only[lG,eI]at h3;have:=h3 o (ao iY);simp only[he,beq_self_eq_true,Bool.not_true,Bool.false_or,gu]at this;have h7:=dL dU i o iY _ this;have h8:=(ak.1 iY).1;omega
    rw[PV t (λe=>fB q oq hq (by rw[Il,e]))];exact hi.base t v h4 λi o iY _=>fB i o iY
  ·obtain⟨h3,h4⟩:=ku (f:=lG l q) ht;refine hi.base t u h4 λi o iY Ed he=> ?_
   simp only[lG,eI]at h3;have:=h3 o (ao iY);simp only[he,beq_self_eq_true,Bool.not_true,Bool.false_or,gu]at this;exact hD (kW i o iY Ed.1 q this)
 refine⟨λD a w=>((∀i,m<=i->i<l.length->¬D i)/\Inv F S l wd L ds n (λi=>D i/\i<l.length) a w)\/∃p ac Lp wq,TJ P r n l m q d c Gs L K ds D a w p ac Lp wq,λD D' a w hJ hD=>?_,λQ D a w j o rest hj ho pC hp kW hJ hk=>?_,λa w hJ=>?_,.inl ⟨λi _ _ h=>h,?_⟩⟩
 ·rcases hJ with⟨h1,h2⟩|⟨p,ac,Lp,wq,h⟩
  ·refine .inl ⟨λi h3 h4 h5=>h1 i h3 h4 ((hD i h4).1 h5),?_⟩;have:(λi=>D' i/\i<l.length)=λi=>D i/\i<l.length:=funext λi=>propext ⟨fun⟨h3,h4⟩=>⟨(hD i h4).1 h3,h4⟩,fun⟨h3,h4⟩=>⟨(hD i h4).2 h3,h4⟩⟩
   rw[this];exact h2
  ·exact .inr ⟨p,ac,Lp,wq,h.p0,h.p1,λi h3 h4=>(hD i h3).trans (h.dt i h3 h4),h.ag,h.tr,λh3=>h.yes ((hD q hV).1 h3),λh3=>h.no λh4=>h3 ((hD q hV).2 h4),λh3=>h.fl λh4=>h3 ((hD q hV).2 h4)⟩
 ·rcases hJ with⟨h1,h2⟩|⟨p,ac,Lp,wq,h⟩
  ·rcases cT j m with G0|G0
   ·have hg:=ie.take.get j o (by rw[dR,Wi,if_pos G0];exact ho);rw[oH]at hg;refine h2.next dU xV qZ hg ho (λh=>pC h.1) (λk qx=>⟨hp k qx,by have:=dL dU j o ho k qx;omega⟩) λa' w' lC=>hk a' w' (.inl ⟨λi h3 h4 h5=>?_,?_⟩)
    ·rcases h5 with h5|h5
     ·omega
     ·exact h1 i h3 h4 h5
    ·have:(λi=>(i=j\/D i)/\i<l.length)=λi=>i=j\/D i/\i<l.length:=funext λi=>propext ⟨fun⟨h3,h4⟩=>h3.elim .inl λh=> .inr ⟨h,h4⟩,λh=>h.elim (λh=>⟨.inl h,by omega⟩) λh=>⟨.inr h.1,h.2⟩⟩
     rw[this];exact lC
   ·have akk:j=m:=by
     rcases cT m j with h|h
     ·have:=hp _ (mL C5 (j:=j) hV ho);exact absurd this (h1 (j-1) hV hV)
     ·omega
    subst akk;rw[ho]at Nd;obtain⟨p,ac,Lp,wq,h⟩:=start D a w (λi hi Vm=>nT (D:=D) kW j (du o) Nd hp i hi (by simpa using Vm)) h1 kW h2;exact h.next (λg hg=>by obtain⟨o,s,g1,g2,g3,_⟩:=hG g hg;exact⟨o,g1,g2,g3⟩) dU fh hq Il Yp TO jg ho pC hp λa' w' h'=>hk a' w' (.inr h')
  ·exact h.next (λg hg=>by obtain⟨o,s,g1,g2,g3,_⟩:=hG g hg;exact⟨o,g1,g2,g3⟩) dU fh hq Il Yp TO jg ho pC hp λa' w' h'=>hk a' w' (.inr h')
 ·rcases hJ with⟨h1,_⟩|⟨p,ac,Lp,wq,h⟩
  ·exact absurd acY (h1 m (aK _) acY)
  ·have yN:p=l.length:=by
    rcases cT p l.length with h3|h3
    ·have h4:=(h.dt p h3 (by have:=h.p0;omega)).1 h3;omega
    ·have:=h.p1;omega
   have B6:=h.tr;rw[yN,List.drop_length]at B6;exact⟨Lp,ds,by rw[h.yes (by show q<l.length;omega)];exact h.ag,B6⟩
 ·refine⟨(Step.refl M wd).eE a30 (λb ⟨p,hp,_,hb⟩=>qZ p hp b hb),λi o s _ _ h=>h.1.elim,ha.size,ha.defers,λi o s e _ _ h=>h.1.elim,λt v h _=>ha.at_ t v h,λi o _ h=>h.1.elim⟩
theorem T.Vn {id:Nat} {l l':List Oper} (π:List Nat) (m q d:Nat) (c:Value) {oq:Oper} (F:List (Nat×aP)) (S:List (cy M)) (Gs:List (Nat×Nat×(Value->Prop))) (hm:P.follows .mixedOrders=true) (Ng:B7 π l=l') (xY:fm l 0=true) (hπ:mR π l.length=true) (Wi:S.length=m) (ze:Nat.blt m l'.length=true) (dU:fm l' 0=true) (fh:vL l' m q d=true)
  (hq:l'[q]? =some oq) (Il:oq.dst=some d) (Yp:kd oq.op=true) (TO:oq.guard=none) (hS:S[q]? =some (cy.eq c)) (jg:∀(ρ:Operand->Value) w,(∀x u,ev (kK l' q L) x=some u->ρ x=u)->(∀g∈Gs,g.2.2 (ρ (.tmp g.2.1)))->(execOp ρ oq).run P w= .ok (.value c) w)
  (hG:∀g∈Gs,∃o s,l'[g.1]? =some o/\o.dst=some g.2.1/\g.1<m/\g.1≠q/\S[g.1]? =some s/\∀v w,s.p v w->g.2.2 v) (qZ:∀p∈F,∀b,p.2 b->M b) (hFq:∀p∈F,p.1≠q) (xV:Em F l' S)
  (h:∀wD,(∀M,Step M w M wD aH)->bO P r n F wD l' S ds L l' S 0/\∀w',Step M wD M w' (j5 (F.map (·.2)))->iS w' (λacc=>wV P r n l'.toArray aH w' K 0 (l'.drop m) (acc++kK l' l'.length L) ds w') l' S []):T P r n (.region id l.toArray true) L ds w K:=by
 subst Ng;exact jT.t hm xY λwD hD=> .perm π hπ xY (.Yq m q d c F S Gs Wi ze dU fh hq Il Yp TO hS jg hG qZ hFq xV (h wD hD).1 (h wD hD).2)
theorem Im {s:TypeId} {fs:Array Field} {fd:Field} {j size o o' b:Nat} {zv:Value} {bytes:Nat} {x:Operand} {dst:Option Tmp} {ty:TypeId} {pos:String} {af:Array Edge} {gd:Option (Nat×Bool)} (hu:P.underlying s=some (.struct fs)) (V4:fs[j]? =some fd) (ho:o+fd.offset=o') (hi:TI P fd.type zv size bytes) (hs:size≠0)
  {ρ:Operand->Value} (hx:ρ x= .pointer (some ⟨b,o,none⟩)) (w:World):(execOp ρ {dst,op:= .fieldAddr s x j,type:=ty,pos,after:=af,guard:=gd}).run P w= .ok (.value (.pointer (some ⟨b,o',none⟩))) w:=by
 simp only[execOp,hx];simp[Instr.fieldAt,run_underlying hu,V4,Instr.sureAddr,fieldPlace,hi.sizeOf,hs,<-ho,Addr.add_mid]
end
open Go.Proofs
set_option maxRecDepth 10000
def nZ:Int->List En->Int
 |last,[]=>last
 |_,e::L=>nZ e.2 L
def CC:Int->List En->Bool
 |_,[]=>true
 |last,e::L=>decide (o9 last e=0)&&CC e.2 L
theorem PW:∀{L:List En} {last:Int} {i:Nat} {e:En},CC last L=true->L[i]? =some e->o9 (nZ last (L.take i)) e=0/\nZ last (L.take (i+1))=e.2
 |[],_,_,_,_,h=>by simp at h
 |x::L,last,0,e,h,hi=>by
  simp only[CC,cC,decide_eq_true_eq]at h;simp at hi;subst hi;exact⟨by simpa[nZ]using h.1,by simp[nZ]⟩
 |x::L,last,i+1,e,h,hi=>by
  simp only[CC,cC,decide_eq_true_eq]at h;have:=PW h.2 al3;simpa[nZ]using this
theorem CD {last:Int} {e:En} (h:o9 last e=0):iT e.1/\last<e.2:=by
 unfold o9 at h
 split at h
 ·rename_i h1;exact absurd h h1
 ·rename_i h1
  split at h
  ·cases h
  ·exact⟨JJ (by simpa using h1),by omega⟩
theorem lN:∀{L:List En} {last:Int},CC last L=true->∀e∈L,iT e.1
 |[],_,_,e,h=>by cases h
 |x::L,last,h,e,he=>by
  simp only[CC,cC,decide_eq_true_eq]at h;rcases dg.1 he with rfl|he
  ·exact(CD h.1).1
  ·exact lN h.2 e he
theorem CE:∀{L:List En} {last:Int},CC last L=true->gw last (L.map (·.2))=true
 |[],_,_=>rfl
 |x::L,last,h=>by
  simp only[CC,cC,decide_eq_true_eq]at h;simp only[fx,gw,cC,decide_eq_true_eq];exact⟨(CD h.1).2,CE h.2⟩
def j6 (L:List En):Pa:=(L.map (·.1.1),L.map (·.2),keysOf L,(keysOf L).map (pk L))
theorem Ly {x:List Po} (h:x≠[]):∃p∈x,FV x=p.1:=by
 unfold FV
 cases hl:x.getLast? with
 |none=>exact absurd (List.getLast?_eq_none_iff.1 hl) h
 |some p=>exact⟨p,List.mem_of_getLast? hl,rfl⟩
theorem Yr {L:List En} (h:CC (-1) L=true) (hn:L.length<=1000000):Br (j6 L)=true:=by
 have hF:=lN h;have h1:(keysOf L).map (pk L)=(j6 L).2.2.2:=rfl;unfold Br;have e1:decide ((j6 L).1.length=(j6 L).2.1.length)=true:=by simp[j6]
 have e2:gw (-1) (j6 L).2.1=true:=CE h;have e3:decide ((j6 L).2.2.1.length=(j6 L).2.2.2.length)=true:=by simp[j6]
 have e4:FL none (j6 L).2.2.1=true:=X2 (pW L)
 have e5:(j6 L).2.2.2.all (λx=> !oz ((j6 L).1.length:Int) x)=true:=by
  refine eI.2 λx hx=> ?_
  rw[<-h1]at hx;obtain⟨k,hk,rfl⟩:=cO.1 hx;have fB:pk L k≠[]:=OT 0 (nk.1 hk)
  have akl:(pk L k).isEmpty=false:=by
   cases h:pk L k with
   |nil=>exact absurd h fB
   |cons a b=>rfl
  have vG:eJ (-1) (pk L k)=true:=yS k L 0 (-1) hF hV hV;obtain⟨p,hp,hl⟩:=Ly fB;have:=(xz k L 0 hF).2 p hp;have hlen:((j6 L).1.length:Int)=L.length:=by simp[j6]
  simp only[oz,vG,akl,hlen,hl];rw[decide_eq_false hV];rfl
 rw[e1,e2,e3,e4,e5];rfl
theorem TP {L:List En} (hF:∀e∈L,iT e.1) (hn:L.length<=1000000) (k:List UInt8):Room (pk L k):=by
 have h1:=xz k L 0 hF;have vG:eJ (-1) (pk L k)=true:=yS k L 0 (-1) hF hV hV;have tu:∀p∈pk L k,p.2.length<=500:=λp hp=>(h1.2 p hp).2.2
 obtain⟨h2,h3⟩:=xA (pk L k) (-1) 500 hV vG tu hV;have hl:(pk L k).length<=L.length:=h1.1;exact⟨λp hp=>by have:=tu p hp;omega,by omega,by omega,by omega⟩
theorem TQ {L:List En} (hF:∀e∈L,iT e.1) (hn:L.length<=1000000):PO (j6 L):=by
 have hk:(keysOf L).length<=500000000:=by
  have h1:=(pW L).nodup.length_le_of_subset (l₂:=j0 L) (λx hx=>nk.1 hx);have:=xB hF;omega
 refine ⟨by simp[j6];omega,by simp[j6];omega,by simp only[j6];omega,by simp[j6];omega,λx hx=> ?_⟩;obtain⟨k,_,rfl⟩:=cO.1 hx;exact TP hF hn k
theorem Ys {M:aP} {w:World} {e:En} {v:Value} (h:RT.en.V M w e v):(-9223372036854775808<=e.1.1/\e.1.1<=9223372036854775807)/\ -9223372036854775808<=e.2/\e.2<=9223372036854775807:=by
 obtain⟨vs,⟨va,vb,_,⟨vc,vd,_,⟨_,h1⟩,_⟩,⟨_,h2⟩⟩,_⟩:=h;exact⟨h1,h2⟩
def ZP (B b:Nat) (vi vs:Value):aP:=λk=>B<=k/\k≠b/\vi.ownBlock≠some k/\vs.ownBlock≠some k
theorem Own.Vo {κ:IntKind} {e:TypeId} {M M' N:aP} {w w':World} {base:Nat} {v:Value} {xs:List Int} (h:Own (RT.int κ) e (sy v) w base v xs) (s:Step M w M' w' N) (hn:∀c,v.ownBlock=some c->¬N c):Own (RT.int κ) e (sy v) w' base v xs:=
 ((h.Sr (M':=allM) (λ_ _=>trivial)).aaU s.all hn).lone
theorem Step.akm {M M' N:aP} {w w':World} (s:Step M w M' w' N) {v:Value} (hv:∀b,v.ownBlock=some b->b<w'.heap.size/\(w.heap.size<=b\/M' b)):Step M w (mI M' v) w' N:=
 ⟨λh k hk=>hk.elim (λh1=>(hv k h1).1) (λh1=>s.lt h k h1),s.os,s.tape,s.output,s.size,λk hk=>⟨λh=>by
  rcases h with h|h
  ·rcases(hv k h).2 with h1|h1
   ·omega
   ·exact(s.mem k hk).1 h1
  ·exact(s.mem k hk).1 h,λh=> .inr ((s.mem k hk).2 h)⟩,s.same,s.sub⟩
namespace TKSegA
theorem ac0:Enters Tryz.prog 159:=enters Tryz.func159 rfl q0
theorem ac1:Enters Tryz.prog 160:=enters Tryz.func160 rfl q0
theorem ac2:Enters Tryz.prog 201:=enters Tryz.func201 rfl q0
end TKSegA
open TKSegA
set_option maxRecDepth 10000
theorem Lz {M:aP} {s:Se} {v0:Value} (w0:World) (hs:dp RT.se M w0 v0 s):
  Spec Tryz.prog 108 #[v0] w0 (λv w=>v= .int .i64 (s.1.length:Int)/\w=w0):=by
 refine bD (args:=[_]) (fn:=Tryz.f108) Tryz.func108 G (n:=8) Tryz.ntmps108 (T.aU (Rg.a8 G G (T.aU (ab G G (bu G hs.mS G ?_)))));refine aw (A:=RT.se) (B:=(RT.int .i64).sl) Tryz.underlying215 G G qB q0 se0 G G q0 hs ck (λXH FC=>?_);refine bV aC G G G G G FC ck (λac3 J1=>?_);replace J1:((RT.int .i64).sl).V M _ s.1 ac3:=J1;refine bR aC G J1 G (Rg.a8 G G (aS ?_));exact ao2
theorem AA {α:Type} {p:α->Bool}:∀{xs:List α} {i:Nat},i<=xs.length->(∀(k:Nat) x,k<i->xs[k]? =some x->p x=true)->(∀(k:Nat) x,i<=k->xs[k]? =some x->p x=false)->xs.countP p=i
 |[],i,hi,_,_=>by simp at hi;simp[hi]
 |x::xs,0,_,_,h2=>by
  rw[List.countP_eq_zero.2];intro a ha;obtain⟨k,hk⟩:=bQ.1 ha;simp[h2 k a (bA _) hk]
 |x::xs,i+1,hi,h1,h2=>by
  rw[List.countP_cons_of_pos (h1 0 x hV rfl),AA al3 (λk y hk hy=>h1 (k+1) y hV (by simpa using hy)) (λk y hk hy=>h2 (k+1) y hV (by simpa using hy))]
end Go.K
namespace Go.K
open Go.Proofs
namespace TKSegB
theorem Lw:TI Tryz.prog 249 (.slice none 0 0) 1 24:=by unfold TI;kernel_rfl
theorem akn:Enters Tryz.prog 271:=enters Tryz.func271 rfl q0
theorem ako:Enters Tryz.prog 301:=enters Tryz.func301 rfl q0
theorem akp:Enters Tryz.prog 302:=enters Tryz.func302 rfl q0
end TKSegB
open TKSegB
set_option maxRecDepth 10000
def ME (ns:List (List UInt8)) (k:List UInt8):Nat:=ns.countP λx=>decide (x<k)
theorem ac4 {ns:List (List UInt8)} (h:HS ns) {i j:Nat} {x y:List UInt8} (jS:i<=j) (hx:ns[i]? =some x) (hy:ns[j]? =some y): ¬y<x:=by
 rcases qW jS with rfl|h1
 ·rw[hx]at hy;cases hy;exact kQ x
 ·exact kR (iK h hx hy h1)
theorem DO {ns:List (List UInt8)} (h:HS ns) {k:List UInt8}:(k∈ns->ns[ME ns k]? =some k)/\∀x,ns[ME ns k]? =some x->¬x<k:=by
 have key:∀{ns:List (List UInt8)},HS ns->(k∈ns->ns[ME ns k]? =some k)/\∀x,ns[ME ns k]? =some x->¬x<k:=by
  intro ns
  induction ns with
  |nil=>exact λ_=>⟨(λh=>by cases h),λx h=>by simp at h⟩
  |cons y ns ih=>
   intro h;have h':=gC.1 h;by_cases hy:y<k
   ·have e:ME (y::ns) k=ME ns k+1:=by unfold ME;rw[List.countP_cons_of_pos (by simpa using hy)]
    rw[e];simp only[List.getElem?_cons_succ];refine⟨λhk=>(ih h'.2).1 ?_,(ih h'.2).2⟩;rcases dg.1 hk with rfl|hk
    ·exact absurd hy (kQ _)
    ·exact hk
   ·have iR:∀x∈ns,¬x<k:=λx hx eU=>hy (o7 (h'.1 x hx) eU)
    have e:ME (y::ns) k=0:=by
     unfold ME;rw[List.countP_eq_zero];intro a ha;rcases dg.1 ha with rfl|ha
     ·simpa using hy
     ·simpa using iR a ha
    rw[e];refine⟨λhk=>?_,λx hx=>by simp at hx;subst hx;exact hy⟩;rcases dg.1 hk with rfl|hk
    ·rfl
    ·exact absurd (h'.1 k hk) hy
 exact key h
def geN (ns:List (List UInt8)) (k:List UInt8) (i:Nat):Bool:=match ns[i]? with|some x=> !decide (x<k)|none=>true
theorem AB {ns:List (List UInt8)} {k x:List UInt8} {i:Nat} (h:ns[i]? =some x):geN ns k i= !decide (x<k):=by unfold geN;rw[h]
theorem PX {ns:List (List UInt8)} (h:HS ns) {k:List UInt8}:ns[ME ns k]? =some k↔k∈ns:=⟨λh=>ao h,(DO h).1⟩
theorem Io {M:aP} {n:Nat} {g:FuncId} {cap:List Value} {good:Nat->Bool} (w0:World) (hg:Enters Tryz.prog g) (Vp:∀i j,i<=j->j<n->good i=true->good j=true) (hn:n<=4611686018427387904) (ht:∀(i:Nat) w,i<n->Step M w0 M w aH->Spec Tryz.prog g ([.int .i64 (i:Int)]++cap:List Value).toArray w (λv w'=>v= .bool (good i)/\Step M w M w' aH)):
  Spec Tryz.prog 301 #[.int .i64 (n:Int),.func (.func g) #[] cap.toArray] w0 (λv w=>∃m:Nat,v= .int .i64 (m:Int)/\m<=n/\(∀i,i<m->good i=false)/\(∀i,m<=i->i<n->good i=true)/\Step M w0 M w aH):=by
 refine bD (args:=[_,_]) (fn:=Tryz.f301) Tryz.func301 G (n:=23) Tryz.ntmps301 (T.aU (Rg.a8 G G (T.aU (Rg.a8 G G (aQ (bp ?_))))));refine dz (σ:=Nat×Nat) (λq=>[(0,.int .i64 (q.2:Int)),(1,.func (.func g) #[] cap.toArray),(5,.int .i64 (q.1:Int))]) (λq w=>Step M w0 M w aH/\q.1<=q.2/\q.2<=n/\(∀i,i<q.1->good i=false)/\(∀i,q.2<=i->i<n->good i=true)) (λq=>q.2-q.1) (0,n) a11 ?_ ?_
 ·exact⟨bg,bA _,aK _,λi h=>absurd h (fp _),λi h h'=>by omega⟩
 ·rintro⟨i,j⟩ w ⟨S,jS,hj,h1,h2⟩;dsimp only at jS hj h1 h2 ⊢;refine aQ (T.aU (ab G G (ab G G (cH G G G (ad ?_)))));refine bH G (λc2=>?_) (λc2=>?_)
  ·refine aM (bp (T.aU (ab G G (ab G G (ab G G (iQ G G G hV (Rg.zd G G G hV (aX G G G hV (aZ (v':= .int .i64 ((i+(j-i)/2:Nat):Int)) (congrArg _ hV) (aJ G G ?_))))))))));refine ad (T.aU (ab G G (ab G G ?_)));refine wJ (first:=[]) (captured:=cap) (xs:=[.tmp 17]) G G G hg (vs:=[.int .i64 ((i+(j-i)/2:Nat):Int)]) (ht (i+(j-i)/2) _ hV S) (λr4 w4 hc=>?_);obtain⟨rfl,s4⟩:=hc;refine aZ (v':= .bool (decide (good (i+(j-i)/2)=true))) (by simp) ?_;replace S:=S.ar s4;refine ad ?_;refine bH G (λc4=>?_) (λc4=>?_)
   ·refine ay (ab G G (Rg.a8 G G ?_));refine⟨G,(i,i+(j-i)/2),a11,?_,?_⟩
    ·exact⟨S,by dsimp only;omega,by dsimp only;omega,h1,λk hk Z5=>Vp _ _ hk Z5 c4⟩
    ·dsimp only;omega
   ·refine ay (ab G G (aX G G G hV (Rg.a8 G G ?_)));refine⟨G,(i+(j-i)/2+1,j),a11,?_,?_⟩
    ·exact⟨S,by dsimp only;omega,hj,λk hk=>by
      cases h:good k with
      |false=>rfl
      |true=>exact absurd (Vp k (i+(j-i)/2) (by dsimp only at hk;omega) hV h) c4,h2⟩
    ·dsimp only;omega
  ·refine de (T.aU (ab G G (Rg.a8 G G (aS ?_))));have e:i=j:=by omega
   subst e;exact aT G G ⟨i,G,hj,h1,h2,S⟩
theorem FY {M:aP} {d:Di} {v0:Value} {i bd bk:Nat} {k x:List UInt8} (w0:World) (hd:dp RT.di M w0 v0 d) (gd:w0.heap[bd]? =some (.cells #[v0] 213 (0,0))) (gk:w0.heap[bk]? =some (.cells #[sv k] 9 (0,0))) (hx:d.1[i]? =some x):
  Spec Tryz.prog 302 #[.int .i64 (i:Int),.pointer (some ⟨bd,0,none⟩),.pointer (some ⟨bk,0,none⟩)] w0 (λv w=>v= .bool (!decide (x<k))/\Step M w0 M w aH):=by
 have hM:True:=trivial;refine bD (args:=[_,_,_]) (fn:=Tryz.f302) Tryz.func302 G (n:=14) Tryz.ntmps302 (T.aU (Rg.a8 G G (aQ ?_)));apply Bw mixed rfl rfl;intro KU NX;have nc:=NX M;replace gd:=nc.aF gd;replace gk:=nc.aF gk;replace hd:=hd.le q0 nc.le;refine aR Tryz.underlying213 G G G gd G (aZ (v':=v0) G (Rg.dI (bu G hd.mS G (Rg.dI ?_))));refine aw (A:=RT.di) (B:=RT.str.sl) Tryz.underlying310 G G x8 q0 di0 G G q0 hd ck (λpn TR=>?_);refine Rg.dI ?_;refine bV aI G G G G G TR ck (λvn yQ=>?_);replace yQ:(RT.str.sl).V M _ d.1 vn:=yQ;refine Rg.dI (ab G G (Rg.dI ?_));have qz:=(ak.1 hx).1;refine cD aI I9 G G G yQ ck hV (λu a hg hu=>?_);obtain rfl:x=a:=aG (hx.symm.trans (by simpa using hg));refine Rg.dI ?_;refine bV aE G G G G G hu ck (λvx zW=>?_);obtain rfl:=eF zW;refine Rg.dI (aR aE G G G gk G (aZ (v':=sv k) G (Rg.dI (Rg.XC G G G (Rg.dI (aJ G G (Rg.dI (gV (aS ?_)))))))));exact aT rfl rfl ⟨by rw[decide_not],nc⟩
theorem Ip {M:aP} {d:Di} {v0:Value} {k:List UInt8} (w0:World) (hM:Lt M w0) (hd:dp RT.di M w0 v0 d) (PY:HS d.1):
  Spec Tryz.prog 271 #[v0,sv k] w0 (λv w=>v= .tuple #[.int .i64 (ME d.1 k:Int),.bool (decide (k∈d.1))]/\Step M w0 M w aH):=by
 refine bD (args:=[_,_]) (fn:=Tryz.f271) Tryz.func271 G (n:=33) Tryz.ntmps271 ?_;have S:Step M w0 M w0 aH:=bg;refine T.aU ?_;refine qu M G G (λTS akr atz atA sH TT=>?_);replace sH:akr.heap[TS]? =some (.cells #[v0] 213 (0,0)):=by rw[Cz hd]at sH;exact sH
 obtain⟨PZ,P0⟩:∃M',M'=ins M TS:=⟨_,rfl⟩;rw[<-P0]at TT;have xE:PZ TS:=by rw[P0];exact .inl G
 replace hd:=hd.le q0 TT.le;replace hM:=TT.lt hM;have:=S.size;replace S:=S.ar TT;refine qu PZ G G (λgz tS HF HG cN iN=>?_);obtain⟨fi,gL⟩:∃M',M'=ins PZ gz:=⟨_,rfl⟩;rw[<-gL]at iN;have b9:fi gz:=by rw[gL];exact .inl G
 change tS.heap[gz]? =some (.cells #[sv k] _ _)at cN;have:=ah sH;replace xE:=(iN.mem _ this).2 xE;replace sH:=iN.aF sH;replace hd:=hd.le q0 iN.le;replace hM:=iN.lt hM;have:=S.size;replace S:=S.ar iN;refine aJ G G (Rg.a8 G G (T.aU (aR Tryz.underlying213 G G G sH G (aZ (v':=v0) G (bu G hd.mS G ?_)))));refine aw (A:=RT.di) (B:=RT.str.sl) Tryz.underlying310 G G x8 q0 di0 G G q0 hd ck (λpn TR=>?_);refine bV aI G G G G G TR ck (λvn yQ=>?_);replace yQ:(RT.str.sl).V fi _ d.1 vn:=yQ;have Z1:=dJ yQ;refine bR aI G yQ G (jQ (xs:=[]) (ys:=[.tmp 2,.tmp 3]) G G G ?_)
 refine aV G G ako (Io (M:=fi) (n:=d.1.length) (cap:=[.pointer (some ⟨TS,0,none⟩),.pointer (some ⟨gz,0,none⟩)]) (good:=geN d.1 k) _ akp (λi j jS hj h=>by
  have hi:=aq (show i<d.1.length by omega);have xX:=aq hj;rw[AB hi]at h;rw[AB xX];simp only[tg,decide_eq_false_iff_not]at h ⊢;intro eU;rcases nX d.1[i] d.1[j]with h1|h1|h1
  ·exact h (o7 h1 eU)
  ·rw[h1]at h;exact h eU
  ·exact ac4 PY jS hi xX h1) hV (λi w hi s=>by
  have hx:=aq hi;rw[AB hx];exact FY w (hd.le q0 s.le) (s.aF sH) (s.aF cN) hx)) (λr1 w1 hc=>?_)
 obtain⟨m,rfl,hm,ZX,hhi,s1⟩:=hc;have em:ME d.1 k=m:=AA hm (λi x hi hx=>by have:=ZX i hi;rw[AB hx]at this;simpa using this) (λi x hi hx=>by have:=hhi i hi (ak.1 hx).1;rw[AB hx]at this;simpa using this);have:=ah sH;replace xE:=(s1.mem _ this).2 xE;replace sH:=s1.aF sH;have:=ah cN;replace b9:=(s1.mem _ this).2 b9;replace cN:=s1.aF cN;replace hd:=hd.le q0 s1.le;replace hM:=s1.lt hM;have:=S.size;replace S:=S.ar s1;refine Rg.a8 G G (aQ ?_);apply Bw mixed rfl rfl;intro wD2 sA2;have Yt:=sA2 fi;have:=ah sH;replace xE:=(Yt.mem _ this).2 xE;replace sH:=Yt.aF sH;have:=ah cN;replace b9:=(Yt.mem _ this).2 b9;replace cN:=Yt.aF cN;replace hd:=hd.le q0 Yt.le;replace hM:=Yt.lt hM;have:=S.size;replace S:=S.ar Yt;refine ab G G (Rg.dI (ab G G (Rg.dI (aR Tryz.underlying213 G G G sH G (aZ (v':=v0) G (Rg.dI (bu G hd.mS G (Rg.dI ?_))))))));refine aw (A:=RT.di) (B:=RT.str.sl) Tryz.underlying310 G G x8 q0 di0 G G q0 hd ck (λpn2 aks=>?_);refine Rg.dI ?_;refine bV aI G G G G G aks ck (λvn2 Yu=>?_);replace Yu:(RT.str.sl).V fi _ d.1 vn2:=Yu;refine Rg.dI (bR aI G Yu G (Rg.dI (cH G G G (Rg.dI (ab G G (Rg.dI ?_))))));refine aB (g:=22) G (λYv=>?_) (λYv=>?_)
 ·refine ae G G (aR Tryz.underlying213 G G G sH G (aZ (v':=v0) G (Rg.dI (ae G G (bu G hd.mS G (Rg.dI (ae G G ?_)))))));refine aw (A:=RT.di) (B:=RT.str.sl) Tryz.underlying310 G G x8 q0 di0 G G q0 hd ck (λpn3 akt=>?_);refine Rg.dI (ae G G ?_);refine bV aI G G G G G akt ck (λvn3 Yw=>?_);replace Yw:(RT.str.sl).V fi _ d.1 vn3:=Yw;refine Rg.dI (ae G G (ab G G (Rg.dI (ae G G ?_))));refine cD aI I9 G G G Yw ck hV (λu2 x hg2 ff=>?_);rw[av]at hg2;refine Rg.dI (ae G G ?_);refine bV aE G G G G G ff ck (λvx zW=>?_);obtain rfl:=eF zW;refine Rg.dI (ae G G (aR aE G G G cN G (aZ (v':=sv k) G (Rg.dI (ae G G (Rg.Ej G G G (Rg.dI (aN G G G (Rg.dI (aJ G G (Rg.dI ?_)))))))))));refine aJ G G (Rg.dI (gV (aS ?_)));rw[<-em]at*
  first
  |(have e:decide (x=k)=decide (k∈d.1):=decide_eq_decide.2 (by rw[<-PX PY,hg2];simp)
    exact fk rfl rfl rfl ⟨by rw[e],S.back⟩)
  |(have e:k∉d.1:=λh=>by have:=(DO PY).1 h;have:=(ak.1 this).1;omega
    exact fk rfl rfl rfl ⟨by rw[decide_eq_false e],S.back⟩)
 ·refine aj G G G G (Rg.dI (aj G G G G (Rg.dI (aj G G G G (Rg.dI (aj G G G G (Rg.dI (aj G G G G (Rg.dI (aj G G G G (Rg.dI ?_)))))))))));refine aj G G G G (Rg.dI (aj G G G G (Rg.dI (aj G G G G (Rg.dI (au G G G (Rg.dI (aJ G G (Rg.dI (aJ G G (Rg.dI ?_)))))))))));refine gV (aS ?_);rw[<-em]at*
  first
  |(have e:decide (x=k)=decide (k∈d.1):=decide_eq_decide.2 (by rw[<-PX PY,hg2];simp)
    exact fk rfl rfl rfl ⟨by rw[e],S.back⟩)
  |(have e:k∉d.1:=λh=>by have:=(DO PY).1 h;have:=(ak.1 this).1;omega
    exact fk rfl rfl rfl ⟨by rw[decide_eq_false e],S.back⟩)
theorem find_spec {M:aP} {d:Di} {v0:Value} {k:List UInt8} (w0:World) (hM:Lt M w0) (hd:dp RT.di M w0 v0 d) (PY:HS d.1) (hl:d.1.length=d.2.length):
  Spec Tryz.prog 218 #[v0,sv k] w0 (λv w=>Step M w0 M w aH/\((∃(j:Nat) (p:Value) (t:Li),v= .tuple #[p,.bool true]/\d.1[j]? =some k/\d.2[j]? =some t/\dp RT.li M w p t)\/(v= .tuple #[.pointer none,.bool false]/\k∉d.1))):=by
 refine bD (args:=[_,_]) (fn:=Tryz.f218) Tryz.func218 G (n:=25) Tryz.ntmps218 ?_;have S:Step M w0 M w0 aH:=bg;refine T.aU (aJ G G (Rg.a8 G G (T.aU (ab G G (ab G G ?_)))));refine aV G G akn (Ip _ hM hd PY) (λr1 w1 hc=>?_);obtain⟨rfl,s1⟩:=hc;replace hd:=hd.le q0 s1.le;replace hM:=s1.lt hM;have:=S.size;replace S:=S.ar s1;refine ab G G (cP G G G (cP G G G (aJ G G (Rg.a8 G G (aQ (T.aU (ab G G (jd G G (aZ (v':= .bool (decide (k∉d.1))) (by simp) ?_)))))))));refine ad ?_;refine bH G (λc2=>?_) (λc2=>?_)
 ·refine T.aU (Rg.a8 G G (T.aU (ab G G (aJ G G (Rg.a8 G G (aS ?_))))));exact fk G G G ⟨S,.inr ⟨G,c2⟩⟩
 ·refine aM (T.aU (ab G G (bu G hd.mS G ?_)));refine aw (A:=RT.di) (B:=((RT.li).ptr).sl) Tryz.underlying310 G G Lw q0 di1 G G q0 hd ck (λpt hpt=>?_);refine bV fq G G G G G hpt ck (λvt hvt=>?_);replace hvt:(((RT.li).ptr).sl).V M _ d.2 vt:=hvt;refine ab G G ?_;have hk:=(DO PY).1 (cF.1 c2);have G1:=(ak.1 hk).1;refine cD fq tK G G G hvt ck hV (λu5 t KT gg=>?_);rw[av]at KT;refine bV dV G G G G G gg ck (λvp hvp=>?_);have akv:=JM.1 hvp;refine aJ G G (Rg.a8 G G (aS ?_));exact fk G G G ⟨S,.inl ⟨_,_,t,G,hk,KT,akv⟩⟩
end Go.K
namespace Go.K
open Go.Proofs
set_option maxRecDepth 10000
def TU (ns:List (List UInt8)) (ls:List (List Po)) (k:List UInt8):List Po:=match (ns.zip ls).find? (λp=>decide (p.1=k))with|some p=>p.2|none=>[]
theorem P1 {ns:List (List UInt8)} (hn:ns.Nodup) {ls:List (List Po)} {k:List UInt8} {j:Nat} {l:List Po} (h:ns[j]? =some k) (hl:ls[j]? =some l):TU ns ls k=l:=by
 have:∀{ns:List (List UInt8)} {ls:List (List Po)} {j:Nat},ns.Nodup->ns[j]? =some k->ls[j]? =some l->(ns.zip ls).find? (λp=>decide (p.1=k))=some (k,l):=by
  intro ns
  induction ns with
  |nil=>intro ls j _ h;simp at h
  |cons x ns ih=>
   intro ls j hn h hl
   cases ls with
   |nil=>simp at hl
   |cons y ls=>
    cases j with
    |zero=>simp at h hl;subst h;subst hl;simp
    |succ j=>
     have Mv:=List.nodup_cons.1 hn;have hk:k∈ns:=ao a84;have hx:x≠k:=λe=>Mv.1 (by rw[e];exact hk)
     rw[List.zip_cons_cons,List.find?_cons_of_neg af5];exact ih Mv.2 a84 (by simpa using hl)
 unfold TU;rw[this hn h hl]
theorem FZ {ns:List (List UInt8)} {ls:List (List Po)} {k:List UInt8} (h:k∉ns):TU ns ls k=[]:=by
 unfold TU;rw[List.find?_eq_none.2 λp hp=>by have:=List.of_mem_zip hp;simp;intro e;exact h (e▸this.1)]
theorem P2 {L:List En} (k:List UInt8):TU (keysOf L) ((keysOf L).map (pk L)) k=pk L k:=by
 by_cases h:k∈keysOf L
 ·obtain⟨j,hj⟩:=bQ.1 h;exact P1 (pW L).nodup hj (by rw[eX,hj];rfl)
 ·rw[FZ h];exact(JL 0 (λh'=>h (nk.2 h'))).symm
def ym (d:Di) (k:List UInt8) (M:aP) (v:Value) (w:World):Prop:=(∃(j:Nat) (t:Li),d.1[j]? =some k/\d.2[j]? =some t/\dp RT.li M w v t)\/(v= .pointer none/\k∉d.1)
theorem ym.step {d:Di} {k:List UInt8} {M M':aP} {v:Value} {w w':World} (h:ym d k M v w) (s:Step M w M' w' aH):ym d k M' v w':=h.imp (fun⟨j,t,h1,h2,h3⟩=>⟨j,t,h1,h2,h3.le q0 s.le⟩) id
theorem LA {M:aP} {t:Fd} (w0:World) (hM:Lt M w0) (h1:t.1.length<=140737488355328) (h2:t.2.length<=140737488355328):
  Spec Tryz.prog 95 #[kv t] w0 (λv w=>v= .string ⟨(dv t).toArray⟩/\Step M w0 M w aH):=by
 refine bD (args:=[_]) (fn:=Tryz.f95) Tryz.func95 G (n:=9) Tryz.ntmps95 ?_;have S:Step M w0 M w0 aH:=bg;refine T.aU ?_;refine fO (A:=RT.fd) G G hM (DB hV hV) G (λu0 w1 dP s0 _=>?_);replace hM:=s0.lt hM;have:=S.size;replace S:=S.ar s0;refine Rg.a8 G G (T.aU ?_);refine aw (M:=M) (A:=RT.fd) (B:=RT.str) bS G G I9 q0 (Mw) G G q0 VR (by repeat (first|exact bB _ _|refine aW (bC VR) ?_)) (λBH l2=>?_);refine bV aE G G G G G l2 ck (λv1 sz=>?_);obtain rfl:=eF sz;refine Rg.cat (p:=t.1) (q:=[0]) rfl rfl rfl a06 ?_;refine aw (M:=M) (A:=RT.fd) (B:=RT.str) bS G G I9 q0 (UI) G G q0 VR (by repeat (first|exact bB _ _|refine aW (bC VR) ?_)) (λSH kP=>?_);refine bV aE G G G G G kP ck (λv4 qS=>?_);obtain rfl:=eF qS;refine Rg.cat (p:=t.1++[0]) (q:=t.2) rfl rfl rfl a06 (Rg.a8 rfl rfl (aS ?_));exact aT G G ⟨G,S⟩
namespace TKCursor
theorem lv:TI Tryz.prog 117 (.slice none 0 0) 1 24:=by unfold TI;kernel_rfl
theorem Yx:TI Tryz.prog 323 (.agg #[(.pointer none),(.int .i64 0),(.slice none 0 0),(.int .i64 0),(.int .i64 0)]) 5 56:=by unfold TI;kernel_rfl
theorem Yy:placesOf Tryz.prog 323=[(0,1),(1,1),(2,1),(3,1),(4,1)].map some:=by kernel_rfl
theorem Ln:Enters Tryz.prog 100:=enters Tryz.func100 rfl q0
theorem ac7:Enters Tryz.prog 220:=enters Tryz.func220 rfl q0
end TKCursor
open TKCursor
set_option maxRecDepth 10000
theorem n0 {l:List Po} {j:Nat} {p:Po} (h:l[j]? =some p):(lV l (j:Int))[0]? =some p:=by
 unfold lV;rw[if_neg hV,av,dR,if_pos hV,iI];simpa using h
theorem Iq {l:List Po} {i:Int} (h:(l.length:Int)<=i):lV l i=[]:=by
 unfold lV;rw[if_neg hV,fV hV,List.take_nil]
theorem LB {M:aP} {w0:World} {q:Addr} {l:List Po} (hv:dp RT.li M w0 (.pointer (some q)) (lJ l)):
  Spec Tryz.prog 219 #[.pointer (some q)] w0 (λv' w'=>∃bc,v'= .pointer (some ⟨bc,0,none⟩)/\w0.heap.size<=bc/\Step M w0 (ins M bc) w' aH/\Cu 323 l (-1) (ins M bc) w' bc):=by
 refine bD (args:=[_]) (fn:=Tryz.f219) Tryz.func219 G (n:=12) Tryz.ntmps219 (T.aU (Rg.a8 G G (aQ (T.aU (ab G G (Rg.Nk (v:= .pointer (some q)) dV G ⟨_,G⟩ G G (aZ (v':= .bool (decide False)) G (ad ?_))))))));refine T.MM G ((λh=>h)) (aM (T.aU (ab rfl rfl (cx (places:=[(0,1),(1,1),(2,1),(3,1),(4,1)]) b7 Yx Yy rfl ⟨_,_,rfl,rfl,_,_,rfl,rfl,_,_,rfl,rfl,rfl⟩ (out:=[_,_,.slice none 0 0,_,.int .i64 0]) ⟨0,[_],rfl,rfl,by simp[Value.cells],1,[_],rfl,rfl,by simp[Value.cells],3,[_],rfl,rfl,by simp[Value.cells],rfl⟩ ?_))));refine qu M G G (λbc w1 h1 Sa hS s1=>?_);refine Rg.a8 G G (aS ?_);exact aT G G ⟨bc,G,h1,s1,.pointer (some q),.slice none 0 0,-1,0,.inl G,hS,hv.le q0 s1.le,ib,by omega,by omega,λ_=>rfl,λh=>by omega⟩
theorem F0 {M:aP} {w0:World} {bc:Nat} {l:List Po} {i:Int} (h:Cu 323 l i M w0 bc) (hm:eJ (-1) l=true):
  Spec Tryz.prog 220 #[.pointer (some ⟨bc,0,none⟩)] w0 (λv' w'=>v'= .bool (decide (0<=i/\i<l.length))/\w0=w'):=by
 obtain⟨p,u,k,fS,yF,hb,hp,hu,hi,hk,UE,fg⟩:=id h;have lY:=EC hm (i:=i);refine bD (args:=[_]) (fn:=Tryz.f220) Tryz.func220 G (n:=15) Tryz.ntmps220 (T.aU (Rg.a8 G G (T.aU (ab G G (bu G ⟨_,G⟩ G (a7 b7 G G I3 q0 G G (aR al G G G VR G (cu G G G ?_))))))));refine ab G G ?_;refine aB (g:=8) G (λlZ=>?_) (λlZ=>?_)
 ·refine ae G G (ab G G (ae G G (bu G ⟨_,G⟩ G (ae G G (a7 b7 G G I3 q0 G G (ae G G (aR al G G G VR G (ae G G (cH G G G (aN G G G (aJ G G ?_)))))))))));refine ad (aS ?_)
  first
  |exact a69
  |exact a68
 ·refine aj G G G G (aj G G G G (aj G G G G (aj G G G G (aj G G G G (au G G G (Rg.a8 G G (aS ?_)))))))
  first
  |exact a69
  |exact a68
theorem F1 {M:aP} {w0:World} {v:Value} {b:List Int} (hM:Lt M w0) (hv:((RT.int .i64).sl).V M w0 b v) (uv:b.length<=1099511627776):
  Spec Tryz.prog 100 #[v] w0 (λv' w'=>((RT.int .i64).sl).V M w' b v'∧Step M w0 M w' aH):=by
 obtain⟨a,cap,kS,hc,hl,hs⟩:=jE.1 hv;refine bD (args:=[_]) (fn:=Tryz.f100) Tryz.func100 G (n:=8) Tryz.ntmps100 (T.aU (Rg.a8 G G (aQ (T.aU (ab G G (aZ (v':= .slice a b.length cap) kS (Rg.uJ aC G G G (ad ?_))))))));refine bH G (λc1=>?_) (λc1=>?_)
 ·refine T.aU (Rg.a8 G G (aS ?_))
  have hb:b=[]:=by
   rcases hs with h|⟨_,_,h,_⟩
   ·exact h
   ·rw[c1]at h;cases h
  exact aT rfl rfl ⟨by rw[hb];exact ib,bg⟩
 ·refine aM (T.aU ?_);refine Rg.sl0 aC I3 M G (λa0 w1 s1=>?_);refine ab G G ?_;refine Rg.oP (A:=RT.int .i64) (hn:=by decide) (M:=M) aC I3 G G G G hv s1.le (s1.lt hM) hV (λu2 w2 ff s2=>?_);refine Rg.a8 G G (aS ?_);exact aT G G ⟨ff,s1.ar s2⟩
theorem DP {M:aP} {w0:World} {bc:Nat} {l:List Po} {i:Int} (h:Cu 323 l i M w0 bc) (hm:eJ (-1) l=true) (tu:∀p∈l,p.2.length<=1099511627776) (hM:Lt M w0):
  Spec Tryz.prog 167 #[.pointer (some ⟨bc,0,none⟩)] w0 (λv' w'=>((RT.int .i64).sl).V M w' (gy l i) v'∧Step M w0 M w' aH):=by
 obtain⟨p,u,k,fS,yF,hb,hp,hu,hi,hk,UE,fg⟩:=id h;refine bD (args:=[_]) (fn:=Tryz.f167) Tryz.func167 G (n:=14) Tryz.ntmps167 (T.aU (Rg.a8 G G (aQ (T.aU (ab G G ?_)))));refine aV G G ac7 (F0 h hm) (λr wc h=>?_);obtain⟨rfl,rfl⟩:=h;refine jd G G (aZ (v':= .bool (decide (¬(0<=i/\i<l.length)))) (by rw[decide_not]) (ad ?_));refine bH G (λc1=>?_) (λc1=>?_)
 ·have ka:gy l i=[]:=by
   rcases fa l i with⟨_,_,h0⟩|⟨j,d,ps,rfl,hx,_⟩|⟨_,_,h0⟩
   ·exact h0
   ·have:=(ak.1 hx).1;omega
   ·exact h0
  refine T.aU (Rg.a8 G G (aS ?_));exact aT rfl rfl ⟨by rw[ka];exact ib,bg⟩
 ·obtain⟨j,d,ps,rfl,hx,hd,yN⟩:∃j:Nat,∃d ps,i=j/\l[j]? =some (d,ps)/\eR l i=d/\gy l i=ps:=by
   rcases fa l i with⟨h0,_⟩|h0|⟨h0,_⟩
   ·omega
   ·exact h0
   ·omega
  have hh:=n0 hx;have hhl:=(ak.1 hh).1;refine aM (T.aU (ab G G (bu G ⟨_,G⟩ G (a7 b7 G G lv q0 G G (aR bK G G G VR G ?_)))));refine cD bK jx G G G (hu) ck a14 (λSI P3 F2 Vq=>?_);obtain rfl:(d,ps)=P3:=cY (aG (F2.symm.trans (by simpa using hh)));refine aw (M:=M) (A:=RT.po) (B:=(RT.int .i64).sl) cv G G qB q0 (Ws) G G q0 VR (by repeat (first|exact bB _ _|refine aW (bC VR) ?_)) (λTx JV=>?_);refine bV (M:=M) aC G G G G G VR (by repeat (first|exact bB _ _|refine aW (bC VR) ?_)) (λTz yi=>?_);replace yi:((RT.int .i64).sl).V M _ ps Tz:=yi;refine aV G G Ln (F1 (M:=M) hM yi (tu _ (ao hx))) (λr wr h=>?_);obtain⟨hr,sr⟩:=h;refine Rg.a8 G G (aS ?_);exact aT rfl rfl ⟨by rw[yN];exact hr,sr⟩
theorem F3 {M:aP} {w0:World} {bc:Nat} {l:List Po} {i:Int} (h:Cu 323 l i M w0 bc) (hm:eJ (-1) l=true):
  Spec Tryz.prog 165 #[.pointer (some ⟨bc,0,none⟩)] w0 (λv' w'=>v'= .int .i64 (gy l i).length/\w0=w'):=by
 obtain⟨p,u,k,fS,yF,hb,hp,hu,hi,hk,UE,fg⟩:=id h;refine bD (args:=[_]) (fn:=Tryz.f165) Tryz.func165 G (n:=14) Tryz.ntmps165 (T.aU (Rg.a8 G G (aQ (T.aU (ab G G ?_)))));refine aV G G ac7 (F0 h hm) (λr wc h=>?_);obtain⟨rfl,rfl⟩:=h;refine jd G G (aZ (v':= .bool (decide (¬(0<=i/\i<l.length)))) (by rw[decide_not]) (ad ?_));refine bH G (λc1=>?_) (λc1=>?_)
 ·have ka:gy l i=[]:=by
   rcases fa l i with⟨_,_,h0⟩|⟨j,d,ps,rfl,hx,_⟩|⟨_,_,h0⟩
   ·exact h0
   ·have:=(ak.1 hx).1;omega
   ·exact h0
  refine T.aU (Rg.a8 G G (aS ?_));exact aT rfl rfl ⟨by rw[ka];rfl,rfl⟩
 ·obtain⟨j,d,ps,rfl,hx,hd,yN⟩:∃j:Nat,∃d ps,i=j/\l[j]? =some (d,ps)/\eR l i=d/\gy l i=ps:=by
   rcases fa l i with⟨h0,_⟩|h0|⟨h0,_⟩
   ·omega
   ·exact h0
   ·omega
  have hh:=n0 hx;have hhl:=(ak.1 hh).1;refine aM (T.aU (ab G G (bu G ⟨_,G⟩ G (a7 b7 G G lv q0 G G (aR bK G G G VR G ?_)))));refine cD bK jx G G G (hu) ck a14 (λSI P3 F2 Vq=>?_);obtain rfl:(d,ps)=P3:=cY (aG (F2.symm.trans (by simpa using hh)));refine aw (M:=M) (A:=RT.po) (B:=(RT.int .i64).sl) cv G G qB q0 (Ws) G G q0 VR (by repeat (first|exact bB _ _|refine aW (bC VR) ?_)) (λTx JV=>?_);refine bV (M:=M) aC G G G G G VR (by repeat (first|exact bB _ _|refine aW (bC VR) ?_)) (λTz yi=>?_);replace yi:((RT.int .i64).sl).V M _ ps Tz:=yi;refine bR aC G yi G (Rg.a8 G G (aS ?_));exact aT rfl rfl ⟨by rw[yN],rfl⟩
def nt (l:List Po) (i:Int):Int:=if i<l.length then i+1 else i
theorem P4 {l:List Po} (hm:eJ (-1) l=true) {i:Int} (hi: -1<=i/\i<=l.length):tG l i (min (eR l i+1) 2147483648)=nt l i:=by
 unfold tG nt;rcases fa l i with⟨h0,h,_⟩|⟨j,d,ps,rfl,hx,h,_⟩|⟨h0,h,_⟩
 ·rw[h,if_neg hV,if_pos hV];rw[idx_eq (i:=0) (λj hj=>absurd hj (fp _)) (λp hp=>by have:=mc hm (i:=0) (d:=p.1) (ps:=p.2) hp;omega) (bA _)];omega
 ·have hr:=mc hm hx;have hj:=(ak.1 hx).1;rw[h,if_neg hV,if_pos hV];rw[idx_eq (i:=j+1) (λt ht p hp=>?_) (λp hp=>?_) hV]
  ·omega
  ·rcases cT t j with h1|h1
   ·have:=nU hm hp hx h1;simp only at this;omega
   ·rw[show t=j from by omega,hx]at hp;cases hp;simp only;omega
  ·have h1:=nU hm hx hp hV;have h2:=mc hm (i:=j+1) (d:=p.1) (ps:=p.2) hp;simp only at h1;omega
 ·rw[h,if_pos hV,if_neg hV]
end Go.K
namespace Go.K
open Go.Proofs
namespace TKIdx
theorem akx:Enters Tryz.prog 225:=enters Tryz.func225 rfl q0
end TKIdx
open TKIdx
set_option maxRecDepth 10000
theorem LC {M:aP} {w0:World} {x:Value} {d to:Int} {bt:Nat} (hM:Lt M w0) (hb:w0.heap[bt]? =some (.cells #[.int .i64 to] 3 (0,0))):
  Spec Tryz.prog 225 #[.agg #[.int .i64 d,x],.pointer (some ⟨bt,0,none⟩)] w0 (λv' w'=>v'= .bool (decide (to<=d))/\Step M w0 M w' aH):=by
 refine bD (args:=[_,_]) (fn:=Tryz.f225) Tryz.func225 G (n:=8) Tryz.ntmps225 (T.aU ?_);refine qu M G G (λbx w1 h1 Sa hS s1=>?_);change w1.heap[bx]? =some (.cells #[.int .i64 d,x] _ _)at hS;have xi:=s1.aF hb;refine Rg.a8 G G (T.aU (a7 cv G G I3 q0 G G (aR al G G G VR G (aR al G G G VR G (cu G G G (Rg.a8 G G (aS ?_)))))));exact aT G G ⟨G,s1.back⟩
set_option maxHeartbeats 2000000 in
theorem vM {M:aP} {w0:World} {v:Value} {lf:List Po} {to:Int} {bt:Nat} (hM:Lt M w0) (hv:((RT.po).sl).V M w0 lf v) (hb:w0.heap[bt]? =some (.cells #[.int .i64 to] 3 (0,0))):
  Spec Tryz.prog 224 #[v,.func (.func 225) #[] #[.pointer (some ⟨bt,0,none⟩)]] w0 (λv' w'=>v'= .int .i64 (if idx lf to<lf.length then(idx lf to:Int)else-1)/\Step M w0 M w' aH):=by
 have hlen:=dJ hv;refine bD (args:=[_,_]) (fn:=Tryz.f224) Tryz.func224 G (n:=19) Tryz.ntmps224 (T.aU (Rg.a8 G G (aQ (T.aU (ab G G (bR bK G hv G (ab G G (ad ?_))))))));refine bp ?_;refine dz (σ:=Nat) (λs=>[(0,v),(1,.func (.func 225) #[] #[.pointer (some ⟨bt,0,none⟩)]),(7,.int .i64 lf.length),(8,.int .i64 s)]) (λs w=>s<=lf.length/\Step M w0 M w aH/\∀j,j<s->∀p,lf[j]? =some p->p.1<to) (λs=>lf.length-s) 0 VS ?_ ?_
 ·exact⟨bA _,bg,λj hj=>absurd hj (fp _)⟩
 ·rintro k w1 ⟨hk,S,eU⟩;refine T.aU (cH G G G (ad (aQ ?_)));refine bH G (λc2=>?_) (λc2=>?_)
  ·refine aM (aQ (bp (T.aU (ab G G (Rg.a8 G G (T.aU (ab G G (ab G G ?_))))))));refine ab G G ?_;obtain⟨⟨d,ps⟩,hx⟩:∃x,(lf)[k]? =some x:=⟨_,aq hV⟩;refine cD bK jx G G G (hv.le S.le) ck a14 (λWR aky ac8 ac9=>?_);obtain rfl:(d,ps)=aky:=cY (aG (ac8.symm.trans af5));refine cq (M:=M) (A:=RT.po) cv G jx q0 G G G VR (by repeat (first|exact bB _ _|refine aW (bC VR) ?_)) (λatF ada=>?_);obtain⟨x4,rfl,_,_⟩:=Wu ada;refine wJ (first:=[]) (captured:=[.pointer (some ⟨bt,0,none⟩)]) (xs:=[.tmp 15]) G G G akx (LC (M:=M) (d:=d) (x:=x4) (S.lt hM) (S.aF hb)) (λr w2 h2=>?_);obtain⟨rfl,s2⟩:=h2;refine ad ?_;refine bH G (λc4=>?_) (λc4=>?_)
   ·refine T.aU (ab G G (Rg.a8 G G (aS ?_)));have he:idx lf to=k:=idx_eq eU (λp hp=>by rw[hx]at hp;cases hp;exact c4) hk;exact aT rfl rfl ⟨by rw[he,if_pos hV],S.ar s2⟩
   ·refine aM (ay (aX G G G hV (ab G G (ad ?_))));refine⟨G,k+1,VS,?_,?_⟩
    ·refine ⟨by omega,S.ar s2,λj hj p hp=> ?_⟩;rcases cT j k with hjk|hjk
     ·exact eU j hjk p hp
     ·rw[show j=k from by omega,hx]at hp;cases hp;simp only;omega
    ·show _-(k+1)<_-k;omega
  ·refine de (T.aU (Rg.a8 G G (aS ?_)))
   have he:idx lf to=lf.length:=by
    obtain rfl:k=lf.length:=by omega
    exact idx_eq eU (λp hp=>by simp at hp) (aK _)
   exact aT rfl rfl ⟨by rw[he,if_neg hV],S⟩
end Go.K
namespace Go.K
open Go.Proofs
namespace TKAdv
theorem lv:TI Tryz.prog 117 (.slice none 0 0) 1 24:=by unfold TI;kernel_rfl
theorem TV:Enters Tryz.prog 166:=enters Tryz.func166 rfl q0
theorem TW:Enters Tryz.prog 221:=enters Tryz.func221 rfl q0
theorem akz:Enters Tryz.prog 222:=enters Tryz.func222 rfl q0
theorem akA:Enters Tryz.prog 223:=enters Tryz.func223 rfl q0
theorem adb:Enters Tryz.prog 224:=enters Tryz.func224 rfl q0
end TKAdv
open TKAdv
set_option maxRecDepth 10000
set_option maxHeartbeats 2000000 in
theorem p9 {M:aP} {w0:World} {bc:Nat} {l:List Po} {i to:Int} (h:Cu 323 l i M w0 bc) (hM:Lt M w0) (hm:eJ (-1) l=true) (tu:∀p∈l,p.2.length<=1099511627776) (uv:(eB (-1) l).length<=1099511627776) (Rz:l.length<=1099511627776) (hto: -9223372036854775808<=to/\to<=9223372036854775807):
  Spec Tryz.prog 166 #[.pointer (some ⟨bc,0,none⟩),.int .i64 to] w0 (λv' w'=>v'= .int .i64 (eR l (tG l i to))/\Step M w0 M w' (λb=>b=bc)/\Cu 323 l (tG l i to) M w' bc):=by
 obtain⟨p,u,k,fS,yF,hb,hp,hu,hi,hk,UE,fg⟩:=id h;have Mt:(lJ l).2.1.length=(l.length+7)/8:=by simp[lJ,qA]
 have Ec:∀b:Nat,b=bc->M b:=λb hb=>by rw[hb];exact yF
 have hdr:=xe hm i;refine bD (args:=[_,_]) (fn:=Tryz.f166) Tryz.func166 G (n:=107) Tryz.ntmps166 (T.aU ?_);refine qu M G G (λbt w1 ht ht' hT s1=>?_);change w1.heap[bt]? =some (.cells #[.int .i64 to] _ _)at hT;have PL:bt≠bc:=by have:=ah hb;omega
 have xi:=s1.aF hb;generalize BS:ins M bt=M1 at s1;have eD:=s1.lt hM;have Vd:=hp.le q0 s1.le;have my:=hu.le s1.le;have BT:=(s1.mem bc (ah hb)).2 yF;have hcM:∀b:Nat,b=bc->M1 b:=λb h=>by rw[h];exact BT
 refine Rg.a8 G G (aQ (aQ ?_));apply T.draw (M:=M1) mixed [cy.eq _,cy.eq _,cy.eq _,cy.eq _,cy.eq _,cy.eq _]
 ·rfl
 ·refine aL ?_ ?_
  ·intro wD E sD;refine aR al G G G (cp sD VR) G ?_;exact VT
  refine aL ?_ ?_
  ·intro wD E sD;refine ab G G ?_;exact VT
  refine aL ?_ ?_
  ·intro wD E sD;refine aA (bu G ⟨_,G⟩ G ?_);exact VT
  refine aL ?_ ?_
  ·intro wD E sD;refine aA (a7 b7 G G I3 q0 G G ?_);exact VT
  refine aL ?_ ?_
  ·intro wD E sD;refine aA (aR al G G G (cp sD VR) G ?_);exact VT
  refine aL ?_ ?_
  ·intro wD E sD;refine aA (aA (gr G G G ?_));exact VT
  exact wL
 ·intro KU nc;refine aA (aA (aA (aA (aA (aA ?_)))));have yv:=nc.aF xi;refine bH G (λc1=>?_) (λc1=>?_)
  ·refine T.aU (ab G G (bu G ⟨_,G⟩ G (a7 b7 G G I3 q0 G G (aR al G G G VR G (Rg.a8 G G (aS ?_))))));have he:tG l i to=i:=by unfold tG;rw[if_pos c1]
   rw[he];have S:=s1.ar nc;exact aT G G ⟨G,S.back.eE a30 Ec,h.step S.back (λh=>h)⟩
  ·refine aM (T.aU (ab G G (bu G ⟨_,G⟩ G (a7 b7 G G I3 q0 G G (aR al G G G VR G (Rg.max2 G G G (Rg.a8 G G (aQ (bp ?_)))))))));refine dz (σ:=Nat) (λs=>[(0,.pointer (some ⟨bc,0,none⟩)),(3,.pointer (some ⟨bt,0,none⟩)),(5,.int .i64 s)]) (λs w=>s<=(l.length+7)/8/\dd (-1) (l.take (8*s))<to/\Step M1 w1 M1 w aH) (λs=>(l.length+7)/8-s) (max k 0).toNat (.cons rfl (.cons rfl (.cons (by rw[show(((max k 0).toNat:Nat):Int)=max k 0 from by omega];rfl) .nil))) ?_ ?_
   ·exact⟨by omega,KH hm hi hk UE fg hV,nc⟩
   ·rintro n w4 ⟨hn,ZX,S4⟩;have TB:=S4.aF xi;have hT4:=S4.aF hT;have MF:=Vd.le q0 S4.le;refine aQ (aQ ?_);by_cases ade:(n:Int)<(((l.length+7)/8:Nat):Int)
    ·apply T.draw (M:=M1) mixed [cy.eq _,cy.eq _,cy.eq _,cy.eq _,cy.eq _,cy.eq _,cy.eq _,cy.eq (.bool true),cy.eq _,cy.eq _,cy.eq _,cy.eq _,cy.eq _,cy.eq _,cy.eq _,cy.eq _,cy.eq _]
     ·rfl
     ·refine aL ?_ ?_
      ·intro wD E sD;refine ab G G ?_;exact VT
      refine aL ?_ ?_
      ·intro wD E sD;refine ab G G ?_;exact VT
      refine aL ?_ ?_
      ·intro wD E sD;refine aA (bu G ⟨_,G⟩ G ?_);exact VT
      refine aL ?_ ?_
      ·intro wD E sD;refine aA (a7 b7 G G tK q0 G G ?_);exact VT
      refine aL ?_ ?_
      ·intro wD E sD;refine aA (aR dV G G G (cp sD VR) G ?_);exact VT
      refine aL ?_ ?_
      ·intro wD E sD;refine aA ?_;refine aV G G TW (nY (M:=M1) (MF.le q0 sD.le)) (λr wc h=>?_);obtain⟨rfl,rfl⟩:=h;exact ad ⟨G,G,_,G,congrArg (λn:Nat=>Value.int .i64 n) Mt,bg⟩
      refine aL ?_ ?_
      ·intro wD E sD;refine aA (aA (cH G G G ?_));exact VT
      refine aL ?_ ?_
      ·intro wD E sD;refine aA (aA (ab G G ?_));refine ad ⟨G,G,_,G,?_,bg⟩;exact congrArg Value.bool (decide_eq_true ade)
      refine aL ?_ ?_
      ·intro wD E sD;refine aA (ae G G (ab G G ?_));exact VT
      refine aL ?_ ?_
      ·intro wD E sD;refine aA (aA (ae G G (bu G ⟨_,G⟩ G ?_)));exact VT
      refine aL ?_ ?_
      ·intro wD E sD;refine aA (aA (ae G G (a7 b7 G G tK q0 G G ?_)));exact VT
      refine aL ?_ ?_
      ·intro wD E sD;refine aA (aA (ae G G (aR dV G G G (cp sD VR) G ?_)));exact VT
      refine aL ?_ ?_
      ·intro wD E sD;refine aA (ae G G (ab G G ?_));exact VT
      refine aL ?_ ?_
      ·intro wD E sD;refine aA (aA (aA (aA (ae G G ?_))));refine aV G G akz (Lr (k:=n) (MF.le q0 sD.le)) (λr wc h=>?_);obtain⟨rfl,rfl⟩:=h;exact VT
      refine aL ?_ ?_
      ·intro wD E sD;refine aA (ae G G (aR al G G G (cp sD VR) G ?_));exact VT
      refine aL ?_ ?_
      ·intro wD E sD;refine aA (aA (aA (ae G G (cH G G G ?_))));exact VT
      refine aL ?_ ?_
      ·intro wD E sD;refine aA (aA (aN G G G ?_));exact VT
      exact wL
     ·intro wD4 rY;refine aA (aA (aA (aA (aA (aA (aA (aA (aA (aA (aA (aA ?_)))))))))));refine aA (aA (aA (aA (aA ?_))));replace S4:=S4.ar rY;replace TB:=rY.aF TB;replace hT4:=rY.aF hT4;replace MF:=MF.le q0 rY.le;have Vj:=S4.lt eD;refine bH G (λc4=>?_) (λc4=>?_)
      ·refine aM (bp (ay (ab G G (aX G G G hV (Rg.a8 G G ?_)))));refine⟨G,n+1,a11,?_,?_⟩
       ·have Ee:=EB (g:=l) (k:=n) hV;refine⟨by omega,?_,S4⟩;rw[show 8*(n+1)=8*n+8 from by omega,<-Ee];exact c4
       ·show _-(n+1)<_-n;omega
      ·refine de (aQ (T.aU (ab G G (ab G G (bu G ⟨_,G⟩ G (a7 b7 G G tK q0 G G (aR dV G G G VR G ?_)))))));refine aV G G TW (nY (M:=M1) MF) (λr wc h=>?_);obtain⟨rfl,rfl⟩:=h;refine aZ (v':= .int .i64 (((l.length+7)/8:Nat):Int)) (congrArg (λn:Nat=>Value.int .i64 n) Mt) (je G G G (ad ?_));refine bH G (λc6=>?_) (λc6=>?_)
       ·exfalso;omega
       ·have hnk:n<(l.length+7)/8:=by omega
        have hhi:to<=dd (-1) (l.take (8*n+8)):=by
         first
         |(exfalso;omega)
         |(have:=EB (g:=l) (k:=n) hV;omega)
        refine aM (aQ (T.aU (ab G G (ab G G (bu G ⟨_,G⟩ G (a7 b7 G G I3 q0 G G (aR al G G G VR G (fG G G G (ad ?_)))))))));refine bH G (λc9=>?_) (λc9=>?_)
        ·refine T.aU (ab G G (ab G G (ab G G (ab G G (bu G ⟨_,G⟩ G (a7 b7 G G tK q0 G G (aR dV G G G VR G (ab G G ?_))))))));refine aV G G akA (H7 (M:=M1) (k:=n) Vj MF hm tu uv) (λJy w10 h=>?_);obtain⟨tQ,Ll⟩:=h;rw[if_pos (by unfold No;simp;omega),av]at Ll;have akC:=tQ.aF TB;refine bu G ⟨_,G⟩ G (a7 b7 G G I3 q0 G G ?_);refine cA (M:=M1) I3 G G akC G G BT (λw11 adf Ay=>?_);change w11.heap[bc]? =some (.cells #[p,.int .i64 n,u,.int .i64 (eR l i),.int .i64 fS] 323 (0,0))at adf;refine bu G ⟨_,G⟩ G (a7 b7 G G lv q0 G G ?_);refine cA (M:=M1) lv G G adf G (jX Ll G G) BT (λN6 TX nV=>?_);change N6.heap[bc]? =some (.cells #[p,.int .i64 n,Jy,.int .i64 (eR l i),.int .i64 fS] 323 (0,0))at TX;refine ad (ay (ab G G (bu G ⟨_,G⟩ G (a7 b7 G G I3 q0 G G (aR al G G G VR G (Rg.zc G G G (bu G ⟨_,G⟩ G (a7 b7 G G I3 q0 G G ?_))))))));refine cA (M:=M1) I3 G G TX G G BT (λXU Yz vE=>?_);change XU.heap[bc]? =some (.cells #[p,.int .i64 n,Jy,.int .i64 (eR l i),.int .i64 (IntKind.i64.wrap (fS+1))] 323 (0,0))at Yz;obtain⟨lf,uX,cX,s,wX,hwX,hbX,hlV,Wt,C3,iA,hs3,hs4,hpX,hTX,SX⟩:∃lf uX cX s wX,wX=XU/\wX.heap[bc]? =some (.cells #[p,.int .i64 n,uX,.int .i64 (eR l i),.int .i64 cX] 323 (0,0))/\((RT.po).sl).V M1 wX lf uX/\lf=(l.drop s).take (8*n+8-s)/\8*n<=s/\s<8*n+8/\s<l.length/\dd (-1) (l.take s)<to/\dp RT.li M1 wX p (lJ l)/\wX.heap[bt]? =some (.cells #[.int .i64 to] 3 (0,0))/\Step M1 w1 M1 wX (λb=>b=bc):=⟨_,Jy,_,8*n,XU,rfl,Yz,((Ll.le Ay.le).le nV.le).le vE.le,by rw[show 8*n+8-8*n=8 from by omega],by omega,by omega,by omega,ZX,(((MF.le q0 tQ.le).le q0 Ay.le).le q0 nV.le).le q0 vE.le,vE.bY (nV.bY (Ay.bY (tQ.aF hT4) PL) PL) PL,((((S4.eE a30 hcM).ar tQ).trans Ay (λ_ _ h=>h)).trans nV (λ_ _ h=>h)).trans vE (λ_ _ h=>h)⟩
         subst hwX;clear Yz;refine ad (aQ ?_);obtain⟨Ni,Ef,ha3,ha4,ha5⟩:=Cd hm C3 iA hs3 hs4 hhi Wt;have hMX:=SX.lt eD;obtain⟨⟨d,ps⟩,hx⟩:∃x,l[idx l to]? =some x:=⟨_,aq ha3⟩;have hh:=n0 hx;have hhl:=(ak.1 hh).1;apply T.sN (M:=M1) mixed [] [cy.eq _,cy.eq _,cy.eq _,cy.eq _,cy.eq uX,cy.eq _,cy.eq _,cy.eq _,cy.eq uX,cy.eq _,cy.eq _,cy.V ((RT.po).sl) (lV l (idx l to:Nat))] 12
         ·rfl
         ·rfl
         ·rfl
         ·rfl
         ·rfl
         ·exact a90
         ·exact sh
         ·refine aD ?_ ?_
          ·intro wD E sD;refine ab G G ?_;exact VT
          refine aD ?_ ?_
          ·intro wD E sD;refine ab G G ?_;exact VT
          refine aD ?_ ?_
          ·intro wD E sD;refine aA (bu G ⟨_,G⟩ G ?_);exact VT
          refine aD ?_ ?_
          ·intro wD E sD;refine aA (a7 b7 G G lv q0 G G ?_);exact VT
          refine aD ?_ ?_
          ·intro wD E sD;refine aA (aR bK G G G (cp sD VR) G ?_);exact VT
          refine aD ?_ ?_
          ·intro wD E sD;refine ab G G ?_;exact VT
          refine aD ?_ ?_
          ·intro wD E sD;refine aA (bu G ⟨_,G⟩ G ?_);exact VT
          refine aD ?_ ?_
          ·intro wD E sD;refine aA (a7 b7 G G lv q0 G G ?_);exact VT
          refine aD ?_ ?_
          ·intro wD E sD;refine aA (aR bK G G G (cp sD VR) G ?_);exact VT
          refine aD ?_ ?_
          ·intro wD E sD;refine jQ (xs:=[]) (ys:=[.tmp 3]) G G G ?_;exact VT
          refine aD ?_ ?_
          ·intro wD E sD;refine aA (aA ?_);refine aV G G adb (vM (M:=M1) (sD.lt hMX) (hlV.le sD.le) (sD.aF hTX)) (λr wi h=>?_);obtain⟨rfl,s⟩:=h;refine aZ (v':= .int .i64 ((idx lf to:Nat):Int)) (by rw[if_pos Ef]) ?_;exact ad ⟨G,G,_,G,G,s⟩
          refine aD ?_ ?_
          ·intro wD E sD;refine aA (aA ?_);refine Rg.pB (A:=RT.po) (hn:=by decide) bK jx G G G (hlV.le sD.le) hV (λu hu=>?_);rw[av,ha5]at hu;exact ad ⟨G,G,_,G,hu,bg⟩
          exact kI
         ·intro PH Az;refine aA (aA (aA (aA (aA (aA (aA (aA (aA (aA (aA ?_))))))))));intro qa DQ;have YA:=Az.aF hbX;have mz:((RT.po).sl).V M1 PH (lV l (idx l to:Nat)) qa:=DQ;have S14:=SX.ar Az;refine bu G ⟨_,G⟩ G (a7 b7 G G lv q0 G G ?_);refine cA (M:=M1) lv G G YA G (jX mz G G) BT (λHE P5 pS=>?_);change HE.heap[bc]? =some (.cells #[p,.int .i64 n,qa,.int .i64 (eR l i),.int .i64 cX] 323 (0,0))at P5;replace mz:=mz.le pS.le;refine ad (T.aU (ab G G (ab G G (bu G ⟨_,G⟩ G (a7 b7 G G lv q0 G G (aR bK G G G VR G ?_))))));refine cD bK jx G G G (mz) ck a14 (λadh P7 Ir YB=>?_);obtain rfl:(d,ps)=P7:=cY (aG (Ir.symm.trans (by simpa using hh)));refine aw (M:=M1) (A:=RT.po) (B:=RT.int .i64) cv G G I3 q0 (RA) G G q0 VR (by repeat (first|exact bB _ _|refine aW (bC VR) ?_)) (λUT Oh=>?_);refine bX (M:=M1) al G G VR (by repeat (first|exact bB _ _|refine aW (bC VR) ?_)) (λAD=>?_);refine aZ (v':= .int .i64 (d)) G ?_;replace AD: -9223372036854775808<=(d:Int)/\d<=9223372036854775807:=AD;refine bu G ⟨_,G⟩ G (a7 b7 G G I3 q0 G G ?_);refine cA (M:=M1) I3 G G P5 G G BT (λVi P8 Ie=>?_);change Vi.heap[bc]? =some (.cells #[p,.int .i64 n,qa,.int .i64 d,.int .i64 cX] 323 (0,0))at P8;replace mz:=mz.le Ie.le;refine ad (T.aU (ab G G (bu G ⟨_,G⟩ G (a7 b7 G G I3 q0 G G (aR al G G G VR G (Rg.a8 G G (aS ?_)))))))
          have he:tG l i to=(idx l to:Int):=by unfold tG;rw[if_neg c1]
          rw[he];have S7:=((s1.eE a30 Ec).trans ((S14.trans pS (λ_ _ h=>h)).trans Ie (λ_ _ h=>h)) (λ_ _ h=>h));exact aT rfl rfl ⟨by rw[jU hx];rfl,S7.back,p,qa,n,cX,yF,by rw[jU hx];exact P8,(hp.le q0 S7.back.le),mz.le (pz hM S7),by omega,by omega,λh=>by omega,λ_ h=>by omega⟩
        ·have atI:=(k9 l (-1) hm q0 (8*n+8)).2
         obtain⟨Wa,qQ⟩:0<=i/\i<l.length:=by
          rcases fa l i with⟨h0,_⟩|⟨j,d,ps,rfl,hx,_⟩|⟨h0,h1,_⟩
          ·have:=UE h0;omega
          ·have:=(ak.1 hx).1;omega
          ·omega
         have Et:=fg Wa qQ;obtain⟨j,jS⟩:∃j:Nat,i=j:=⟨i.toNat,by omega⟩;obtain⟨⟨dj,pj⟩,F4⟩:∃x,l[j]? =some x:=⟨_,aq hV⟩;have hdj:=jU F4;rw[<-jS]at hdj;have hlj:=(ri hm F4).1;obtain rfl:(n:Int)=k:=by omega
         have kU:=my.le S4.le;obtain⟨lf,uX,cX,s,wX,hwX,hbX,hlV,Wt,C3,iA,hs3,hs4,hpX,hTX,SX⟩:∃lf uX cX s wX,wX=_/\wX.heap[bc]? =some (.cells #[p,.int .i64 n,uX,.int .i64 (eR l i),.int .i64 cX] 323 (0,0))/\((RT.po).sl).V M1 wX lf uX/\lf=(l.drop s).take (8*n+8-s)/\8*n<=s/\s<8*n+8/\s<l.length/\dd (-1) (l.take s)<to/\dp RT.li M1 wX p (lJ l)/\wX.heap[bt]? =some (.cells #[.int .i64 to] 3 (0,0))/\Step M1 w1 M1 wX (λb=>b=bc):=⟨_,u,fS,j,_,rfl,TB,kU,by rw[jS];unfold lV;rw[if_neg hV,av,show 8*n+8-j=8-j%8 from by omega],by omega,by omega,by omega,by omega,MF,hT4,S4.eE a30 hcM⟩;subst hwX;clear TB;refine aM (aQ ?_);obtain⟨Ni,Ef,ha3,ha4,ha5⟩:=Cd hm C3 iA hs3 hs4 hhi Wt;have hMX:=SX.lt eD;obtain⟨⟨d,ps⟩,hx⟩:∃x,l[idx l to]? =some x:=⟨_,aq ha3⟩;have hh:=n0 hx;have hhl:=(ak.1 hh).1;apply T.sN (M:=M1) mixed [] [cy.eq _,cy.eq _,cy.eq _,cy.eq _,cy.eq uX,cy.eq _,cy.eq _,cy.eq _,cy.eq uX,cy.eq _,cy.eq _,cy.V ((RT.po).sl) (lV l (idx l to:Nat))] 12
         ·rfl
         ·rfl
         ·rfl
         ·rfl
         ·rfl
         ·exact a90
         ·exact sh
         ·refine aD ?_ ?_
          ·intro wD E sD;refine ab G G ?_;exact VT
          refine aD ?_ ?_
          ·intro wD E sD;refine ab G G ?_;exact VT
          refine aD ?_ ?_
          ·intro wD E sD;refine aA (bu G ⟨_,G⟩ G ?_);exact VT
          refine aD ?_ ?_
          ·intro wD E sD;refine aA (a7 b7 G G lv q0 G G ?_);exact VT
          refine aD ?_ ?_
          ·intro wD E sD;refine aA (aR bK G G G (cp sD VR) G ?_);exact VT
          refine aD ?_ ?_
          ·intro wD E sD;refine ab G G ?_;exact VT
          refine aD ?_ ?_
          ·intro wD E sD;refine aA (bu G ⟨_,G⟩ G ?_);exact VT
          refine aD ?_ ?_
          ·intro wD E sD;refine aA (a7 b7 G G lv q0 G G ?_);exact VT
          refine aD ?_ ?_
          ·intro wD E sD;refine aA (aR bK G G G (cp sD VR) G ?_);exact VT
          refine aD ?_ ?_
          ·intro wD E sD;refine jQ (xs:=[]) (ys:=[.tmp 3]) G G G ?_;exact VT
          refine aD ?_ ?_
          ·intro wD E sD;refine aA (aA ?_);refine aV G G adb (vM (M:=M1) (sD.lt hMX) (hlV.le sD.le) (sD.aF hTX)) (λr wi h=>?_);obtain⟨rfl,s⟩:=h;refine aZ (v':= .int .i64 ((idx lf to:Nat):Int)) (by rw[if_pos Ef]) ?_;exact ad ⟨G,G,_,G,G,s⟩
          refine aD ?_ ?_
          ·intro wD E sD;refine aA (aA ?_);refine Rg.pB (A:=RT.po) (hn:=by decide) bK jx G G G (hlV.le sD.le) hV (λu hu=>?_);rw[av,ha5]at hu;exact ad ⟨G,G,_,G,hu,bg⟩
          exact kI
         ·intro PH Az;refine aA (aA (aA (aA (aA (aA (aA (aA (aA (aA (aA ?_))))))))));intro qa DQ;have YA:=Az.aF hbX;have mz:((RT.po).sl).V M1 PH (lV l (idx l to:Nat)) qa:=DQ;have S14:=SX.ar Az;refine bu G ⟨_,G⟩ G (a7 b7 G G lv q0 G G ?_);refine cA (M:=M1) lv G G YA G (jX mz G G) BT (λHE P5 pS=>?_);change HE.heap[bc]? =some (.cells #[p,.int .i64 n,qa,.int .i64 (eR l i),.int .i64 cX] 323 (0,0))at P5;replace mz:=mz.le pS.le;refine ad (T.aU (ab G G (ab G G (bu G ⟨_,G⟩ G (a7 b7 G G lv q0 G G (aR bK G G G VR G ?_))))));refine cD bK jx G G G (mz) ck a14 (λadh P7 Ir YB=>?_);obtain rfl:(d,ps)=P7:=cY (aG (Ir.symm.trans (by simpa using hh)));refine aw (M:=M1) (A:=RT.po) (B:=RT.int .i64) cv G G I3 q0 (RA) G G q0 VR (by repeat (first|exact bB _ _|refine aW (bC VR) ?_)) (λUT Oh=>?_);refine bX (M:=M1) al G G VR (by repeat (first|exact bB _ _|refine aW (bC VR) ?_)) (λAD=>?_);refine aZ (v':= .int .i64 (d)) G ?_;replace AD: -9223372036854775808<=(d:Int)/\d<=9223372036854775807:=AD;refine bu G ⟨_,G⟩ G (a7 b7 G G I3 q0 G G ?_);refine cA (M:=M1) I3 G G P5 G G BT (λVi P8 Ie=>?_);change Vi.heap[bc]? =some (.cells #[p,.int .i64 n,qa,.int .i64 d,.int .i64 cX] 323 (0,0))at P8;replace mz:=mz.le Ie.le;refine ad (T.aU (ab G G (bu G ⟨_,G⟩ G (a7 b7 G G I3 q0 G G (aR al G G G VR G (Rg.a8 G G (aS ?_)))))))
          have he:tG l i to=(idx l to:Int):=by unfold tG;rw[if_neg c1]
          rw[he];have S7:=((s1.eE a30 Ec).trans ((S14.trans pS (λ_ _ h=>h)).trans Ie (λ_ _ h=>h)) (λ_ _ h=>h));exact aT rfl rfl ⟨by rw[jU hx];rfl,S7.back,p,qa,n,cX,yF,by rw[jU hx];exact P8,(hp.le q0 S7.back.le),mz.le (pz hM S7),by omega,by omega,λh=>by omega,λ_ h=>by omega⟩
    ·apply T.draw (M:=M1) mixed [cy.eq _,cy.eq _,cy.eq _,cy.eq _,cy.eq _,cy.eq _,cy.eq _,cy.eq (.bool false),cy.eq undef,cy.eq undef,cy.eq undef,cy.eq undef,cy.eq undef,cy.eq undef,cy.eq undef,cy.eq undef,cy.eq _]
     ·rfl
     ·refine aL ?_ ?_
      ·intro wD E sD;refine ab G G ?_;exact VT
      refine aL ?_ ?_
      ·intro wD E sD;refine ab G G ?_;exact VT
      refine aL ?_ ?_
      ·intro wD E sD;refine aA (bu G ⟨_,G⟩ G ?_);exact VT
      refine aL ?_ ?_
      ·intro wD E sD;refine aA (a7 b7 G G tK q0 G G ?_);exact VT
      refine aL ?_ ?_
      ·intro wD E sD;refine aA (aR dV G G G (cp sD VR) G ?_);exact VT
      refine aL ?_ ?_
      ·intro wD E sD;refine aA ?_;refine aV G G TW (nY (M:=M1) (MF.le q0 sD.le)) (λr wc h=>?_);obtain⟨rfl,rfl⟩:=h;exact ad ⟨G,G,_,G,congrArg (λn:Nat=>Value.int .i64 n) Mt,bg⟩
      refine aL ?_ ?_
      ·intro wD E sD;refine aA (aA (cH G G G ?_));exact VT
      refine aL ?_ ?_
      ·intro wD E sD;refine aA (aA (ab G G ?_));refine ad ⟨G,G,_,G,?_,bg⟩;exact congrArg Value.bool (decide_eq_false ade)
      refine aL ?_ ?_
      ·intro wD E sD;refine aA ?_;exact a13
      refine aL ?_ ?_
      ·intro wD E sD;refine aA (aA ?_);exact a13
      refine aL ?_ ?_
      ·intro wD E sD;refine aA (aA ?_);exact a13
      refine aL ?_ ?_
      ·intro wD E sD;refine aA (aA ?_);exact a13
      refine aL ?_ ?_
      ·intro wD E sD;refine aA ?_;exact a13
      refine aL ?_ ?_
      ·intro wD E sD;refine aA (aA (aA (aA ?_)));exact a13
      refine aL ?_ ?_
      ·intro wD E sD;refine aA ?_;exact a13
      refine aL ?_ ?_
      ·intro wD E sD;refine aA (aA (aA ?_));exact a13
      refine aL ?_ ?_
      ·intro wD E sD;refine aA (aA (au G G G ?_));exact VT
      exact wL
     ·intro wD4 rY;refine aA (aA (aA (aA (aA (aA (aA (aA (aA (aA (aA (aA ?_)))))))))));refine aA (aA (aA (aA (aA ?_))));replace S4:=S4.ar rY;replace TB:=rY.aF TB;replace hT4:=rY.aF hT4;replace MF:=MF.le q0 rY.le;have Vj:=S4.lt eD;refine fQ G (de (aQ (T.aU (ab G G (ab G G (bu G ⟨_,G⟩ G (a7 b7 G G tK q0 G G (aR dV G G G VR G ?_))))))));refine aV G G TW (nY (M:=M1) MF) (λr wc h=>?_);obtain⟨rfl,rfl⟩:=h;refine aZ (v':= .int .i64 (((l.length+7)/8:Nat):Int)) (congrArg (λn:Nat=>Value.int .i64 n) Mt) (je G G G (ad ?_));refine bH G (λc6=>?_) (λc6=>?_)
      ·refine T.aU (ab G G (ab G G (bu G ⟨_,G⟩ G (a7 b7 G G lv q0 G G ?_))));refine cA (M:=M1) lv G G TB G G BT (λw7 hb7 s7=>?_);change w7.heap[bc]? =some (.cells #[p,.int .i64 k,.slice none 0 0,.int .i64 (eR l i),.int .i64 fS] 323 (0,0))at hb7;refine bu G ⟨_,G⟩ G (a7 b7 G G I3 q0 G G ?_);refine cA (M:=M1) I3 G G hb7 G G BT (λw8 hb8 s8=>?_);change w8.heap[bc]? =some (.cells #[p,.int .i64 k,.slice none 0 0,.int .i64 2147483648,.int .i64 fS] 323 (0,0))at hb8;refine ad (T.aU (Rg.a8 G G (aS ?_)));have he:tG l i to=(l.length:Int):=by unfold tG;rw[if_neg c1,Sd hm (n:=8*n) hV ZX]
       rw[he];have S7:=((s1.ar S4).eE a30 Ec).trans ((s7.trans s8 (λ_ _ h=>h))) (λ_ _ h=>h);exact aT rfl rfl ⟨by rw[rS (oh _)],S7.back,p,.slice none 0 0,k,fS,yF,by rw[rS (oh _)];exact hb8,(hp.le q0 S7.back.le),by rw[Iq (oh _)];exact ib,by omega,hk,λh=>by omega,λ_ h=>by omega⟩
      ·exfalso;omega
theorem pf {M:aP} {w0:World} {bc:Nat} {l:List Po} {i:Int} (h:Cu 323 l i M w0 bc) (hM:Lt M w0) (hm:eJ (-1) l=true) (tu:∀p∈l,p.2.length<=1099511627776) (uv:(eB (-1) l).length<=1099511627776) (Rz:l.length<=1099511627776):
  Spec Tryz.prog 164 #[.pointer (some ⟨bc,0,none⟩)] w0 (λv' w'=>v'= .int .i64 (eR l (nt l i))/\Step M w0 M w' (λb=>b=bc)/\Cu 323 l (nt l i) M w' bc):=by
 obtain⟨p,u,k,fS,yF,hb,hp,hu,hi,hk,UE,fg⟩:=id h;have hdr:=xe hm i;refine bD (args:=[_]) (fn:=Tryz.f164) Tryz.func164 G (n:=11) Tryz.ntmps164 (T.aU (Rg.a8 G G (T.aU (ab G G (ab G G (bu G ⟨_,G⟩ G (a7 b7 G G I3 q0 G G (aR al G G G VR G ?_))))))));refine aX G G G hV (Rg.min2 G G G ?_);have hn:tG l i (min (eR l i+1) 2147483648)=nt l i:=P4 hm hi;refine aV G G TV (p9 (to:=min (eR l i+1) 2147483648) h hM hm tu uv Rz hV) (λr w1 h1=>?_);rw[hn]at h1;obtain⟨rfl,s1,h1⟩:=h1;refine Rg.a8 G G (aS ?_);exact aT G G ⟨G,s1,h1⟩
end Go.K
namespace Go.K
open Go.Proofs
namespace TKErsA
theorem akM:TI Tryz.prog 213 (.pointer none) 1 8:=by unfold TI;kernel_rfl
theorem Yx:TI Tryz.prog 323 (.agg #[(.pointer none),(.int .i64 0),(.slice none 0 0),(.int .i64 0),(.int .i64 0)]) 5 56:=by unfold TI;kernel_rfl
theorem Yy:placesOf Tryz.prog 323=[(0,1),(1,1),(2,1),(3,1),(4,1)].map some:=by kernel_rfl
theorem TF:Enters Tryz.prog 155:=enters Tryz.func155 rfl q0
theorem akN:Enters Tryz.prog 218:=enters Tryz.func218 rfl q0
theorem akO:Enters Tryz.prog 219:=enters Tryz.func219 rfl q0
end TKErsA
open TKErsA
set_option maxRecDepth 10000
theorem F5 {M:aP} (w0:World) (hM:Lt M w0):
  Spec Tryz.prog 219 #[.pointer none] w0 (λv' w'=>∃bc,v'= .pointer (some ⟨bc,0,none⟩)/\w0.heap.size<=bc/\Step M w0 (ins M bc) w' aH/\Cu 323 [] (-1) (ins M bc) w' bc):=by
 refine bD (args:=[_]) (fn:=Tryz.f219) Tryz.func219 G (n:=12) Tryz.ntmps219 (T.aU (Rg.a8 G G (aQ (T.aU (ab G G (Rg.Nr dV G G G (ad (T.agh G (G) ?_))))))));refine ay ?_;refine aV G G TF (xD (l:=[]) hM ib (λp h=>by cases h) q0 q0 q0) (λr2 w2 hc=>?_);obtain⟨s2,fh,_⟩:=hc;obtain⟨p,rfl,hp⟩:=fh rfl;obtain⟨q,rfl⟩:=hp.mS;refine ab rfl rfl (cP rfl rfl rfl (cP rfl rfl rfl (Rg.a8 rfl rfl (T.aU (ab rfl rfl (cx (places:=[(0,1),(1,1),(2,1),(3,1),(4,1)]) b7 Yx Yy rfl ⟨_,_,rfl,rfl,_,_,rfl,rfl,_,_,rfl,rfl,rfl⟩ (out:=[_,_,.slice none 0 0,_,.int .i64 0]) ⟨0,[_],rfl,rfl,by simp[Value.cells],1,[_],rfl,rfl,by simp[Value.cells],3,[_],rfl,rfl,by simp[Value.cells],rfl⟩ ?_))))));refine qu M G G (λbc w3 h1 Sa hS s3=>?_);refine Rg.a8 G G (aS ?_);exact aT G G ⟨bc,G,by have:=s2.size;omega,s2.ar s3,.pointer (some q),.slice none 0 0,-1,0,.inl rfl,hS,hp.le q0 s3.le,ib,by decide,by decide,λ_=>rfl,λh=>by omega⟩
theorem F6 {M:aP} {v:Value} {l:List Po} (w0:World) (hM:Lt M w0) (h:dp RT.li M w0 v (lJ l)\/(v= .pointer none/\l=[])):Spec Tryz.prog 219 #[v] w0 (λv' w'=>∃bc,v'= .pointer (some ⟨bc,0,none⟩)/\w0.heap.size<=bc/\Step M w0 (ins M bc) w' aH/\Cu 323 l (-1) (ins M bc) w' bc):=by
 rcases h with h|⟨rfl,rfl⟩
 ·obtain⟨q,rfl⟩:=h.mS;exact LB h
 ·exact F5 w0 hM
theorem vN {M:aP} {s:Se} {ls:List (List Po)} {t:Fd} {v0:Value} (w0:World) (hM:Lt M w0) (hs:dp RT.se M w0 v0 s) (PY:HS s.2.2.1) (hls:s.2.2.2=ls.map lJ) (hdl:s.2.2.1.length=ls.length) (h1:t.1.length<=140737488355328) (h2:t.2.length<=140737488355328):
  Spec Tryz.prog 163 #[v0,kv t] w0 (λv' w'=>∃bc,v'= .pointer (some ⟨bc,0,none⟩)/\w0.heap.size<=bc/\Step M w0 (ins M bc) w' aH/\Cu 323 (TU s.2.2.1 ls (dv t)) (-1) (ins M bc) w' bc):=by
 refine bD (args:=[_,_]) (fn:=Tryz.f163) Tryz.func163 G (n:=19) Tryz.ntmps163 ?_;have S:Step M w0 M w0 aH:=bg;refine T.aU ?_;refine fO (A:=RT.fd) G G hM (DB h1 h2) G (λu0 w1 dP s0 _=>?_);replace hs:=hs.le q0 s0.le;replace hM:=s0.lt hM;have:=S.size;replace S:=S.ar s0;refine Rg.a8 G G (aQ ?_);apply T.draw (M:=M) mixed [cy.eq v0,cy.eq v0,cy.ptr ((RT.di).ptr) s.2.2,cy.ptr RT.di s.2.2,cy.eq (kv t),cy.eq (sv (dv t)),(cy.mk' (λv w=>∃p,v= .tuple #[p,.bool (decide (dv t∈s.2.2.1))]/\ym s.2.2 (dv t) M p w) (fun⟨p,h1,h2⟩ s=>⟨p,h1,h2.step s⟩)),(cy.mk' (λv w=>∃p,v= .tuple #[p,.bool (decide (dv t∈s.2.2.1))]/\ym s.2.2 (dv t) M p w) (fun⟨p,h1,h2⟩ s=>⟨p,h1,h2.step s⟩)),(cy.mk' (λv w=>ym s.2.2 (dv t) M v w) (λh s=>h.step s)),cy.eq (.bool (decide (dv t∈s.2.2.1))),(cy.mk' (λv w=>ym s.2.2 (dv t) M v w) (λh s=>h.step s)),cy.eq (.bool (decide (dv t∈s.2.2.1)))]
 ·rfl
 ·refine aL ?_ ?_
  ·intro wD E sD;refine ab G G ?_;exact VT
  refine aL ?_ ?_
  ·intro wD E sD;refine aA (bu G hs.mS G ?_);exact VT
  refine aL ?_ ?_
  ·intro wD E sD;refine aA ?_;refine aw (M:=M) (A:=RT.se) (B:=(RT.di).ptr) Tryz.underlying215 G G akM q0 se2 G G q0 hs sD.le (λuf vJ=>?_);exact a73
  refine aL ?_ ?_
  ·intro wD E sD;intro v2 Ch;refine bV Tryz.underlying213 G G G G G (show dp ((RT.di).ptr) M wD v2 s.2.2 from Ch) ck (λvd hvd=>?_);exact ad ⟨G,G,_,G,JM.1 hvd,bg⟩
  refine aL ?_ ?_
  ·intro wD E sD;refine cq (M:=M) (A:=RT.fd) bS G nL q0 G G G dP sD.le (λvt hvt=>?_);obtain rfl:=ll hvt;exact VT
  refine aL ?_ ?_
  ·intro wD E sD;refine aA ?_;refine aV G G E95 (LA (t:=t) _ (sD.lt hM) h1 h2) (λr5 w5 hc=>?_);obtain⟨rfl,s5⟩:=hc;exact ad ⟨G,G,_,G,G,s5⟩
  refine aL ?_ ?_
  ·intro wD E sD;intro v3 vm;refine aA (aA ?_);refine aV rfl rfl akN (find_spec (k:=dv t) _ (sD.lt hM) (show dp RT.di M wD v3 s.2.2 from vm) PY (by rw[hls,cg];exact hdl)) (λr6 w6 hc=>?_);obtain⟨s6,hr⟩:=hc;refine ad ⟨G,G,_,G,?_,s6⟩;rcases hr with⟨j,p,tl,rfl,h3,h4,h5⟩|⟨rfl,h3⟩
   ·exact⟨p,by rw[decide_eq_true (ao h3)],.inl ⟨j,tl,h3,h4,h5⟩⟩
   ·exact⟨_,by rw[decide_eq_false h3],.inr ⟨rfl,h3⟩⟩
  refine aL ?_ ?_
  ·intro wD E sD;intro v6 qE;refine ab G G ?_;exact ad ⟨G,G,_,G,qE,bg⟩
  refine aL ?_ ?_
  ·intro wD E sD;intro v7 Fi;obtain⟨p,rfl,hp⟩:=Fi;refine cP G G G ?_;exact ad ⟨G,G,_,G,hp,bg⟩
  refine aL ?_ ?_
  ·intro wD E sD;intro v7 Fi;obtain⟨p,rfl,hp⟩:=Fi;refine cP G G G ?_;exact VT
  refine aL ?_ ?_
  ·intro wD E sD;intro v8 Eh;intro v6 qE;refine aA (aA ?_);intro v2 Ch;intro v3 vm;refine aA (aA ?_);intro v6 qE;intro v7 Fi;intro v8 Eh;refine aJ G G ?_;exact ad ⟨G,G,_,G,Eh,bg⟩
  refine aL ?_ ?_
  ·intro wD E sD;refine aA ?_;intro v10 tY;refine aA (aA ?_);intro v2 Ch;intro v3 vm;refine aA (aA ?_);intro v6 qE;intro v7 Fi;intro v8 Eh;refine aA ?_;intro v10 tY;refine aJ G G ?_;exact VT
  exact wL
 ·intro KU nc;refine aA (aA ?_);intro ac3 J1;intro XI JO;refine aA (aA ?_);intro atN ao9;intro acG Py;intro atO apa;refine aA ?_;intro adi Is;refine aA ?_;replace Is:ym s.2.2 (dv t) M adi KU:=Is;have hF:=Is;replace hM:=nc.lt hM;replace S:=S.ar nc;replace hs:=hs.le q0 nc.le;replace dP:=dP.le q0 nc.le;refine T.aU (ab G G ?_)
  refine aV G G akO (F6 (l:=TU s.2.2.1 ls (dv t)) _ hM (by
   rcases hF with⟨j,tl,ZY,xX,uF⟩|⟨h,ka⟩
   ·rw[hls,eX]at xX;obtain⟨l,hl1,rfl⟩:=Option.map_eq_some_iff.1 xX;exact .inl (by rw[P1 PY.nodup ZY hl1];exact uF)
   ·exact .inr ⟨h,FZ ka⟩)) (λr2 w2 hc=>?_)
  obtain⟨bc,rfl,hbc,s2,kD⟩:=hc;refine Rg.a8 G G (aS ?_);exact aT G G ⟨bc,G,by have:=S.size;omega,S.ar s2,kD⟩
end Go.K
namespace Go.K
open Go.Proofs
namespace TKErsB
theorem TY:Enters Tryz.prog 163:=enters Tryz.func163 rfl q0
theorem It:Enters Tryz.prog 164:=enters Tryz.func164 rfl q0
end TKErsB
open TKErsB
set_option maxRecDepth 10000
structure OkC (l:List Po):Prop where
 may:eJ (-1) l=true
 ps:∀p∈l,p.2.length<=1099511627776
 by_:(eB (-1) l).length<=1099511627776
 ln:l.length<=1099511627776
theorem P9 {L:List En} (hF:∀e∈L,iT e.1) (hn:L.length<=1000000) (k:List UInt8):OkC (pk L k):=by
 have h1:=xz k L 0 hF;have vG:eJ (-1) (pk L k)=true:=yS k L 0 (-1) hF hV hV;have tu:∀p∈pk L k,p.2.length<=500:=λp hp=>(h1.2 p hp).2.2
 obtain⟨h2,h3⟩:=xA (pk L k) (-1) 500 hV vG tu hV;have hl:(pk L k).length<=L.length:=h1.1;exact⟨vG,λp hp=>by have:=tu p hp;omega,by omega,by omega⟩
end Go.K
namespace Go.K
open Go.Proofs
namespace TKBldJ
theorem Lx:TI Tryz.prog 112 (.slice none 0 0) 1 24:=by unfold TI;kernel_rfl
theorem TL:TI Tryz.prog 114 (.agg #[(.slice none 0 0),(.slice none 0 0),(.slice none 0 0),(.slice none 0 0)]) 4 96:=by unfold TI;kernel_rfl
theorem lv:TI Tryz.prog 117 (.slice none 0 0) 1 24:=by unfold TI;kernel_rfl
theorem E48:Enters Tryz.prog 48:=enters Tryz.func48 rfl q0
theorem E49:Enters Tryz.prog 49:=enters Tryz.func49 rfl q0
theorem E50:Enters Tryz.prog 50:=enters Tryz.func50 rfl q0
theorem E51:Enters Tryz.prog 51:=enters Tryz.func51 rfl q0
theorem E52:Enters Tryz.prog 52:=enters Tryz.func52 rfl q0
end TKBldJ
open TKBldJ
set_option maxRecDepth 10000
set_option maxHeartbeats 4000000 in
theorem Iu {M:aP} {L:List En} {v0:Value} (w0:World) (hM:Lt M w0) (hv:(RT.en.sl).V M w0 L v0) (hl:∀e∈L,∀f∈e.1.2,f.1.length<=900000/\f.2.length<=900000) (hn:L.length<=100000) (fh:CC (-1) L=true):
  Spec Tryz.prog 11 #[v0] w0 (λv w=>∃s,v= .tuple #[s,.int .i64 0]/\dp RT.se M w s (Ih (j6 L))/\Step M w0 M w aH):=by
 have jq:=hM;have hF:=lN fh
 have Z5:(keysOf L).length<=500000000:=by
  have h1:=(pW L).nodup.length_le_of_subset (l₂:=j0 L) (λx hx=>nk.1 hx);have:=xB hF;omega
 have Dn:∀k∈keysOf L,k.length<=43:=λk hk=>yh hF k (nk.1 hk)
 refine bD (args:=[_]) (fn:=Tryz.f11) Tryz.func11 G (n:=63) Tryz.ntmps11 ?_;have S:Step M w0 M w0 aH:=bg;refine T.aU (aJ G G (Rg.a8 G G (T.aU ?_)));refine aV G G E48 (Pb (Z:=λk=>w0.heap.size<=k) (B:=w0.heap.size) _ hM (aK _) (λk hk=>hk)) (λr1 w1 hc=>?_);obtain⟨M1,b1,rfl,_,iq,s1⟩:=hc;replace iq:=iq.Lk (Z':=λk=>w0.heap.size<=k/\k<w1.heap.size) (λc hc eU=>⟨hc,eU⟩);replace hv:=hv.le s1.le;replace hM:=s1.lt hM;have:=S.size;replace S:=S.ar s1;refine Rg.a8 G G (T.aU ?_);refine eu M1 TL G (λgR W7 ah3 ah4 EX zQ=>?_);obtain⟨N2,zR⟩:∃M',M'=ins M1 gR:=⟨_,rfl⟩;rw[<-zR]at zQ;have zS:N2 gR:=by rw[zR];exact .inl G
 change W7.heap[gR]? =some (.cells #[.slice none 0 0,.slice none 0 0,.slice none 0 0,.slice none 0 0] _ _)at EX;replace hv:=hv.le zQ.le;replace iq:=iq.br zQ;replace hM:=zQ.lt hM;have:=S.size;replace S:=S.ar zQ;refine ad (aQ (T.aU (ab G G (bR jG G hv G (ab G G (ad (bp ?_)))))));refine dz (σ:=Nat×Value×Value) (λq=>[(4,.pointer (some ⟨b1,0,none⟩)),(5,.pointer (some ⟨gR,0,none⟩)),(12,v0),(13,.int .i64 (L.length:Int)),(14,.int .i64 (q.1:Int))]) (λq w=>∃M' words,Lt M' w/\Step M w0 M' w aH/\(RT.en.sl).V M' w L v0/\o8 (ZP w0.heap.size gR q.2.1 q.2.2) M' w w0.heap.size b1 (L.take q.1) words (nZ (-1) (L.take q.1))/\w.heap[gR]? =some (.cells #[q.2.1,q.2.2,.slice none 0 0,.slice none 0 0] 114 (0,0))/\M' gR/\Own (RT.int .i64) 3 M' w w0.heap.size q.2.1 ((L.take q.1).map (·.1.1))/\Own (RT.int .i64) 3 M' w w0.heap.size q.2.2 ((L.take q.1).map (·.2))/\k5 q.2.1 q.2.2/\0<=words/\words<=500*(q.1:Int)/\q.1<=L.length) (λq=>L.length-q.1) (0,.slice none 0 0,.slice none 0 0) a74 ?_ ?_
 ·exact⟨_,0,hM,S,hv,iq.Lk (Z':=ZP w0.heap.size gR (.slice none 0 0) (.slice none 0 0)) (λc hc eU=>⟨hc.1,(λh=>by have:=hc.2;omega),(λh=>by cases h),(λh=>by cases h)⟩),EX,zS,ep _ _ _ _ _,ep _ _ _ _ _,k5.nil _,by omega,by omega,bA _⟩
 ·clear hM S hv iq;rintro⟨i,vi,vs⟩ w ⟨M2,words,hM,S,hv,iq,g2,dZ,oA,oG,Tc,hw1,hw2,hi⟩;dsimp only at iq g2 oA oG Tc hw2 hi ⊢;refine T.aU (cH G G G (ad (aQ ?_)));refine bH G (λc4=>?_) (λc4=>?_)
  ·refine aM (aQ (bp (T.aU ?_)));refine cD jG Jn G G G hv ck hV (λu5 e KT gg=>?_);rw[av]at KT;obtain⟨Vr,YC⟩:=PW fh KT;have hem:=ao KT;refine cq (A:=RT.en) ey G Jn q0 G G G gg ck (λv5 qT=>?_);obtain⟨YD,RY⟩:=Ys qT;refine nI (A:=RT.en) (M:=M2) Jn G G G G G VR ck hM (λacJ atV vH F7 atW=>?_);have:=ah g2;replace dZ:=(F7.mem _ this).2 dZ;replace g2:=F7.aF g2;replace hv:=hv.le F7.le;replace oA:=oA.br F7;replace oG:=oG.br F7;replace iq:=iq.br F7;replace hM:=F7.lt hM;have:=S.size;replace S:=S.ar F7;refine ad (aQ (T.aU (ab G G ?_)));refine cq (A:=RT.en) ey G Jn q0 G G G vH ck (λv6 qE=>?_);refine aV G G E49 (Pd (Z:=ZP w0.heap.size gR vi vs) _ hM (λk hk=>⟨by have:=S.size;omega,λh=>by have:=ah g2;omega,λh=>by have:=(oA.base k h).2;omega,λh=>by have:=(oG.base k h).2;omega⟩) iq aj1 qE (hl e hem) (λx hx=>hF x (List.mem_of_mem_take hx)) a06 hV) (λr6 w6 hc=>?_);obtain⟨M6,Pt,s6,rfl,_,Wl⟩:=hc;replace iq:=Wl Vr;have U4:(ux e).length<=500:=(hF e hem).many;refine aZ (v':= .int .i64 0) (by rw[Vr]) ?_;replace oA:=oA.step s6 (λc hc h=>h.1.2.2.1 hc);replace oG:=oG.step s6 (λc hc h=>h.1.2.2.2 hc);replace dZ:=(s6.mem _ (ah g2)).2 dZ;replace g2:=s6.bY g2 (λh=>h.1.2.1 rfl);replace hv:=hv.le s6.le;replace vH:=vH.le q0 s6.le;replace S:=S.cE s6 (λk hk=>hk.1.1);replace hM:=Pt;rw[YC.symm]at iq;refine Rg.a8 G G (T.aU (ab G G (fG G G G (ad (T.MM G ((λh=>h rfl)) (aM ?_))))));have g2p:=g2;have adj:=dZ;have hvp:=hv;have adk:=iq;have Qa:=oA;have Qb:=oG;have hMp:=hM;have Sp:=S;obtain⟨P6,hP6⟩:∃P6:Value->World->Prop,P6=λv w'=>Own (RT.int .i64) 3 (sy v) w' w0.heap.size v ((L.take i).map (·.1.1)++[e.1.1])/\(∀c,v.ownBlock=some c->w6.heap.size<=c\/vi.ownBlock=some c):=⟨_,rfl⟩
   have h6:∀{v:Value} {w w':World},P6 v w->Step M6 w M6 w' aH->P6 v w':=λ{v w w'} h s=>by rw[hP6]at h ⊢;exact⟨h.1.Vo s (λ_ _ h=>h),h.2⟩
   apply T.Vn (M:=M6) [0,1,2,3,4,5,6,7,8,9,10,11,13,12,14,15,16] 13 12 37 (.pointer (some ⟨gR,0,none⟩)) [(6,nJ vi)] [cy.eq (.pointer (some ⟨gR,0,none⟩)),cy.eq vi,cy.ptr RT.dc e.1,cy.ptr (RT.int .i64) e.1.1,cy.eq (.int .i64 e.1.1),cy.V ((RT.int .i64).sl) [e.1.1],(cy.mk' (λv w=>P6 v w) (λh s=>h6 h s)),cy.eq (.pointer (some ⟨gR,1,none⟩)),cy.eq vs,cy.ptr (RT.int .i64) e.2,cy.eq (.int .i64 e.2),cy.V ((RT.int .i64).sl) [e.2],cy.eq (.pointer (some ⟨gR,0,none⟩))] [] mixed
   ·simp+decide only[B7,wY,fx,Bs,Bo,Bp,wI,fP,qO,List.idxOf_cons,cond_true,cond_false,Nat.reduceBEq,Nat.reduceAdd,beq_self_eq_true];rfl
   ·rfl
   ·rfl
   ·rfl
   ·rfl
   ·rfl
   ·rfl
   ·rfl
   ·rfl
   ·rfl
   ·rfl
   ·rfl
   ·exact λρ w h _=>Im (size:=1) (o:=0) (o':=0) dD G G qB q0 (h (.tmp 5) _ G) w
   ·exact λg hg=>by cases hg
   ·intro p hp b hb;simp only[dg,List.not_mem_nil,or_false]at hp;subst hp;exact oA.mut_ b hb
   ·exact λp hp=>by
     simp only[dg,List.not_mem_nil,or_false]at hp;subst hp;show(6:Nat)≠12;decide
   ·exact sq.st (by exact⟨λ_ _ _ _=>trivial,⟨λ_ _ _ _=>trivial,⟨λ_ _ _ _=>trivial,⟨λ_ _ _ _=>trivial,⟨λ_ _ _ _=>trivial,⟨λ_ _ _ _=>trivial,⟨λp hp b hb=>(by simp at hp),⟨λ_ _ _ _=>trivial,⟨λ_ _ _ _=>trivial,⟨λ_ _ _ _=>trivial,⟨λ_ _ _ _=>trivial,⟨λ_ _ _ _=>trivial,⟨λ_ _ _ _=>trivial,trivial⟩⟩⟩⟩⟩⟩⟩⟩⟩⟩⟩⟩⟩)
   intro wR9 sA9;have Qd:=sA9 M6;have:=ah g2;replace dZ:=(Qd.mem _ this).2 dZ;replace g2:=Qd.aF g2;replace hv:=hv.le Qd.le;replace vH:=vH.le q0 Qd.le;replace oA:=oA.br Qd;replace oG:=oG.br Qd;replace iq:=iq.br Qd;replace hM:=Qd.lt hM;have:=S.size;replace S:=S.ar Qd;have g2R:=g2;have adl:=oA;have at0:=oG;have hz6:=Qd.size;refine⟨?_,?_⟩
   ·refine aD ?_ ?_
    ·intro wD E sD;replace sD:Step M6 _ M6 wD (nJ vi):=sD;refine a7 (o':=0) dD G G qB q0 G G ?_;exact VT
    refine aD ?_ ?_
    ·intro wD E sD;replace sD:Step M6 _ M6 wD aH:=sD;refine aA (aR aC G G G (sD.aF g2R) G ?_);exact VT
    refine aD ?_ ?_
    ·intro wD E sD;replace sD:Step M6 _ M6 wD (nJ vi):=sD;refine aw (M:=M6) (A:=RT.en) (B:=RT.dc) ey G G pN q0 en0 G G q0 vH sD.le (λuf vJ=>?_);exact a73
    refine aD ?_ ?_
    ·intro wD E sD;replace sD:Step M6 _ M6 wD (nJ vi):=sD;intro v2 Ch;refine aw (A:=RT.dc) (B:=RT.int .i64) bJ G G I3 q0 dc0 G G q0 (show dp RT.dc M6 wD v2 e.1 from Ch) ck (λuf vJ=>?_);exact a73
    refine aD ?_ ?_
    ·intro wD E sD;replace sD:Step M6 _ M6 wD (nJ vi):=sD;intro v3 vm;refine bX al G G (show dp (RT.int .i64) M6 wD v3 e.1.1 from vm) ck (λlY=>?_);exact VT
    refine aD ?_ ?_
    ·intro wD E sD;replace sD:Step M6 _ M6 wD aH:=sD;refine aA ?_;refine dT (A:=RT.int .i64) (hn:=by decide) (M:=M6) aC I3 q0 G G (sD.lt hM) (iF YD) (.inr ⟨G,G⟩) (λuS wS hS sS=>?_);exact ad ⟨G,G,_,G,hS,sS⟩
    refine aD ?_ ?_
    ·intro wD E sD;replace sD:Step M6 _ M6 wD aH:=sD;refine aA ?_;intro v5 qT;replace sD:Step M6 wR9 M6 wD aH:=sD;refine Rg.nP (M:=M6) (base:=w0.heap.size) aC I3 rfl rfl rfl rfl (adl.br sD) (show((RT.int .i64).sl).V M6 wD [e.1.1] v5 from qT) ck a06 a06 (by have:=sD.size;have:=S.size;omega) (λvA wA hoA sA hFA=>?_);exact ad ⟨G,G,_,G,by show P6 vA wA;rw[hP6];exact⟨hoA.lone,λc hc=>(hFA c hc).elim (λh=> .inl (by have:=sD.size;omega)) .inr⟩,sA.back⟩
    refine aD ?_ ?_
    ·intro wD E sD;replace sD:Step M6 _ M6 wD (nJ vi):=sD;refine a7 (o':=1) dD G G qB q0 G G ?_;exact VT
    refine aD ?_ ?_
    ·intro wD E sD;replace sD:Step M6 _ M6 wD (nJ vi):=sD;refine aA (aR aC G G G (sD.bY g2R (λh=>adl.fN g2R q0 h)) G ?_);exact VT
    refine aD ?_ ?_
    ·intro wD E sD;replace sD:Step M6 _ M6 wD (nJ vi):=sD;refine aw (M:=M6) (A:=RT.en) (B:=RT.int .i64) ey G G I3 q0 en1 G G q0 vH sD.le (λuf vJ=>?_);exact a73
    refine aD ?_ ?_
    ·intro wD E sD;replace sD:Step M6 _ M6 wD (nJ vi):=sD;intro v9 K4;refine bX al G G (show dp (RT.int .i64) M6 wD v9 e.2 from K4) ck (λlY=>?_);exact VT
    refine aD ?_ ?_
    ·intro wD E sD;replace sD:Step M6 _ M6 wD (nJ vi):=sD;refine aA ?_;refine dT (A:=RT.int .i64) (hn:=by decide) (M:=M6) aC I3 q0 G G (sD.lt hM) (iF RY) (.inr ⟨G,G⟩) (λuS wS hS sS=>?_);exact ad ⟨G,G,_,G,hS,sS⟩
    refine aD ?_ ?_
    ·intro wD E sD;replace sD:Step M6 _ M6 wD (nJ vi):=sD;refine aA (aA ?_);intro v2 Ch;intro v3 vm;refine aA ?_;intro v5 qT;intro v6 qE;refine aA (aA (a7 (o':=0) dD G G qB q0 G G ?_));exact VT
    exact kI
   ·intro Z7 JX;replace JX:Step M6 _ M6 Z7 (nJ vi):=JX;refine aA (aA ?_);intro aiZ Pf;intro at3 apd;refine aA ?_;intro at4 ape;intro DR J2;refine aA (aA ?_);intro at5 apf;refine aA ?_;intro adm Iv;refine aA ?_;replace J2:P6 DR Z7:=J2;rw[hP6]at J2;obtain⟨ia,hb9⟩:=J2;replace Iv:((RT.int .i64).sl).V M6 Z7 [e.2] adm:=Iv;have sX:Step M6 w6 M6 Z7 (nJ vi):=(Qd.eE a30 (λb h=>Qa.mut_ b h)).trans JX (λb _ h=>h);have akS:=Qb.step sX (λc hc h=>Tc c h hc);refine Rg.nP (M:=M6) (base:=w0.heap.size) aC I3 rfl rfl rfl rfl akS Iv ck a06 a06 (by have:=Sp.size;have:=sX.size;omega) (λv12 N6 akT nV adn=>?_)
    have ON:∀c,DR.ownBlock=some c->vs.ownBlock≠some c:=λc hc hv=>by
     rcases hb9 c hc with h|h
     ·have:=(Qb.base c hv).2;omega
     ·exact Tc c h hv
    have ado:=ia.Vo nV (λc hc h=>ON c hc h)
    have adp:k5 v12 DR:=λc hc TZ=>by
     rcases adn c hc with h|h
     ·have:=(ia.base c TZ).2;omega
     ·exact ON c TZ h
    have TX:∀c,v12.ownBlock=some c->w6.heap.size<=c\/vs.ownBlock=some c:=λc hc=>(adn c hc).elim (λh=> .inl (by have:=sX.size;omega)) .inr
    have sZ:Step M6 w6 (mI M6 v12) N6 (λk=>nJ vi k\/nJ vs k):=(sX.eE (λ_ h=> .inl h) (λb h=>h.elim (Qa.mut_ b) (Qb.mut_ b))).trans nV (λb _ h=> .inr h);obtain⟨M12,YE⟩:∃M',M'=mI (mI M6 v12) DR:=⟨_,rfl⟩;have sW:Step M6 w6 M12 N6 (λk=>nJ vi k\/nJ vs k):=by rw[YE];exact sZ.akm (λc hc=>⟨(ado.base c hc).2,(hb9 c hc).elim .inl (λh=> .inr (.inr (Qa.mut_ c h)))⟩)
    have oA:=ado.Sr (M':=M12) (by rw[YE];exact λb hb=> .inl hb);have oG:=akT.Sr (M':=M12) (by rw[YE];exact λb hb=> .inr (.inl hb));have dZ:=(sW.mem _ (ah g2p)).2 adj;have g2:=sW.bY g2p (λh=>h.elim (Qa.fN g2p q0) (Qb.fN g2p q0));have iq:=((adk.Lk (Z':=λk=>ZP w0.heap.size gR vi vs k/\ZP w0.heap.size gR DR v12 k) (λc hc eU=>⟨hc,hc.1,hc.2.1,λh=>(hb9 c h).elim (λh=>by omega) hc.2.2.1,λh=>(TX c h).elim (λh=>by omega) hc.2.2.2⟩)).step sW (λk hk hz=>hk.elim hz.1.2.2.1 hz.1.2.2.2)).Lk (Z':=ZP w0.heap.size gR DR v12) (λc hc _=>hc.2);have hv:=hvp.le sW.le;have S:=Sp.cE sW (λk hk=>hk.elim (λh=>(Qa.base k h).1) (λh=>(Qb.base k h).1));have hM:=sW.lt hMp;refine ad ⟨G,G,λh=>absurd G h,?_⟩;refine cA (M:=M12) qB rfl rfl g2 rfl (by obtain⟨_,_,he,_⟩:=oA.isSlice;rw[he];rfl) dZ (λOy g14 jZ=>?_);replace g14:Oy.heap[gR]? =some (.cells #[DR,vs,.slice none 0 0,.slice none 0 0] 114 (0,0)):=g14;replace oA:=oA.step jZ (λc hc (h:c=gR)=>oA.fN g2 q0 (h▸hc));replace oG:=oG.step jZ (λc hc (h:c=gR)=>oG.fN g2 q0 (h▸hc));replace dZ:=(jZ.mem _ (ah g2)).2 dZ;replace iq:=iq.step jZ (λk (hk:k=gR) hz=>hz.2.1 hk);replace hv:=hv.le jZ.le;replace S:=S.cE jZ (λk (hk:k=gR)=>by rw[hk];omega);replace hM:=jZ.lt hM;clear g2;have g2:=g14;refine ad ⟨G,G,λh=>absurd G h,a7 (o':=1) dD G G qB q0 G G (ad ⟨G,G,λh=>absurd G h,?_⟩)⟩;refine cA (M:=M12) qB rfl rfl g2 rfl (by obtain⟨_,_,he,_⟩:=oG.isSlice;rw[he];rfl) dZ (λVi g16 Ie=>?_);replace g16:Vi.heap[gR]? =some (.cells #[DR,v12,.slice none 0 0,.slice none 0 0] 114 (0,0)):=g16;replace oA:=oA.step Ie (λc hc (h:c=gR)=>oA.fN g2 q0 (h▸hc));replace oG:=oG.step Ie (λc hc (h:c=gR)=>oG.fN g2 q0 (h▸hc));replace dZ:=(Ie.mem _ (ah g2)).2 dZ
    replace iq:=iq.step Ie (λk (hk:k=gR) hz=>hz.2.1 hk);replace hv:=hv.le Ie.le;replace S:=S.cE Ie (λk (hk:k=gR)=>by rw[hk];omega);replace hM:=Ie.lt hM;clear g2;have g2:=g16;refine ad ⟨G,G,λh=>absurd G h,tf (ay (aX G G G hV (ab G G (ad ?_))))⟩;have et:L.take (i+1)=L.take i++[e]:=by rw[cj,KT,dS]
    rw[et]at iq;refine⟨G,(i+1,DR,v12),a74,?_,?_⟩
    ·exact⟨_,_,hM,S,hv,by rw[et];exact iq,g2,dZ,by rw[et,eH];exact oA,by rw[et,eH];exact oG,adp.symm,by omega,by dsimp only;omega,by dsimp only;omega⟩
    ·dsimp only;omega
  ·refine de (T.aU ?_);have hLi:L.take i=L:=bM hV;rw[hLi]at iq oA oG;refine ab G G ?_;refine aV G G E50 (H0 _ hM iq hF hV) (λrk w11 hc=>?_);obtain⟨CF,Ay⟩:=hc;have:=ah g2;replace dZ:=(Ay.mem _ this).2 dZ;replace g2:=Ay.aF g2;replace hv:=hv.le Ay.le;replace oA:=oA.br Ay;replace oG:=oG.br Ay;replace iq:=iq.br Ay;replace hM:=Ay.lt hM;have:=S.size;replace S:=S.ar Ay;refine a7 (o':=2) dD G G x8 q0 G G ?_;refine cA (M:=M2) x8 G G g2 G (jX CF G G) dZ (λFb dB gp=>?_);change Fb.heap[_]? =some (Obj.cells #[vi,vs,rk,.slice none 0 0] _ _)at dB;have:=ah g2;replace dZ:=(gp.mem _ this).2 dZ;replace hv:=hv.le gp.le;replace CF:=CF.le gp.le;replace oA:=oA.step gp (λc hc (h:c=gR)=>oA.fN g2 q0 (h▸hc));replace oG:=oG.step gp (λc hc (h:c=gR)=>oG.fN g2 q0 (h▸hc));replace iq:=iq.stepT gp a42;replace hM:=gp.lt hM;have:=S.size;replace S:=S.trans gp (λk hk h=>by have h:_=_:=h;subst h;first|(exfalso;omega)|(show _<=_;omega)|exact⟨by first|omega|assumption,(S.mem _ hk).1 ((gp.mem _ (ah g2)).1 dZ)⟩|exact .inl rfl|exact .inr rfl|exact .inr (.inl rfl)|exact .inr (.inr rfl)|exact .inr (.inr (.inl rfl))|exact rfl);have OB:=dB;clear g2;have g2:=OB;clear OB;refine ad (aQ (T.aU (a7 (o':=2) dD G G x8 q0 G G (aR aI G G G g2 G (aZ (v':=rk) G (bR aI G CF G (ab G G (ad (bp ?_)))))))));refine dz (σ:=Nat×Value) (λq=>[(4,.pointer (some ⟨b1,0,none⟩)),(5,.pointer (some ⟨gR,0,none⟩)),(44,rk),(45,.int .i64 ((keysOf L).length:Int)),(46,.int .i64 (q.1:Int))]) (λq w=>∃M',Lt M' w/\Step M w0 M' w aH/\o8 (ZP w0.heap.size gR vi vs) M' w w0.heap.size b1 L words (nZ (-1) L)/\w.heap[gR]? =some (.cells #[vi,vs,rk,q.2] 114 (0,0))/\M' gR/\Own (RT.int .i64) 3 M' w w0.heap.size vi (L.map (·.1.1))/\Own (RT.int .i64) 3 M' w w0.heap.size vs (L.map (·.2))/\Own ((RT.po).sl) 117 M' w w0.heap.size q.2 (((keysOf L).take q.1).map (pk L))/\(RT.str.sl).V M' w (keysOf L) rk/\q.1<=(keysOf L).length) (λq=>(keysOf L).length-q.1) (0,.slice none 0 0) a74 ?_ ?_
   ·exact⟨_,hM,S,iq,g2,dZ,oA,oG,ep _ _ _ _ _,CF,bA _⟩
   ·clear hM S iq g2 dZ oA oG CF hv;rintro⟨i3,vl⟩ w ⟨M3,hM,S,iq,g2,dZ,oA,oG,lM,CF,hi3⟩;dsimp only at g2 lM hi3 ⊢;refine T.aU (cH G G G (ad (aQ ?_)));refine bH G (λBI=>?_) (λBI=>?_)
    ·refine aM (aQ (bp (T.aU ?_)));refine cD aI I9 G G G CF ck hV (λMG k YF tZ=>?_);rw[av]at YF;refine bV aE G G G G G tZ ck (λvk hvk=>?_);obtain rfl:=eF hvk;refine Rg.a8 G G ?_;apply T.rf 4 [0,1] 2 aH mixed rfl rfl rfl rfl;intro X5 Px;have qI:=Px M3;have:=ah g2;replace dZ:=(qI.mem _ this).2 dZ;replace g2:=qI.aF g2;replace CF:=CF.le qI.le;replace oA:=oA.br qI;replace oG:=oG.br qI;replace lM:=lM.br qI;replace iq:=iq.br qI;replace hM:=qI.lt hM;have:=S.size;replace S:=S.ar qI;refine a7 (o':=3) dD G G Lx q0 G G (Rg.dI (aR Tryz.underlying112 G G G (by first|assumption|exact cp qI VR) G (Rg.dI (ab G G (Rg.dI (ab G G (Rg.dI (gV (⟨kV ⟨kE dD G Lx q0,⟨gX G g2 (λh=>h),trivial⟩⟩,?_⟩)))))))));have kp:=nH aH X5;refine aV G G E51 (H2 (k:=k) _ hM iq hF hV (by have:=Dn k (ao YF);omega)) (λr15 HE hc=>?_);obtain⟨Ph,pS⟩:=hc;have:=ah g2;replace dZ:=(pS.mem _ this).2 dZ;replace g2:=pS.aF g2;replace CF:=CF.le pS.le;replace oA:=oA.br pS;replace oG:=oG.br pS;replace lM:=lM.br pS;replace iq:=iq.br pS;replace hM:=pS.lt hM;have:=S.size;replace S:=S.ar pS;refine(fun(kp:ga _ _ _)=>ad ⟨G,G,λ_=>kp,?_⟩) a02;refine dT (A:=((RT.po).sl)) (hn:=by decide) (M:=M3) Tryz.underlying112 lv q0 G G hM (Ph) (.inr ⟨G,G⟩) (λapg Va AE ky=>?_);have:=ah g2;replace dZ:=(ky.mem _ this).2 dZ;replace g2:=ky.aF g2;replace CF:=CF.le ky.le
     replace Ph:=Ph.le ky.le;replace oA:=oA.br ky;replace oG:=oG.br ky;replace lM:=lM.br ky;replace iq:=iq.br ky;replace hM:=ky.lt hM;have:=S.size;replace S:=S.ar ky;refine(fun(kp:ga _ _ _)=>ad ⟨G,G,λ_=>kp,?_⟩) a02;refine cI (M:=M3) (base:=w0.heap.size) Tryz.underlying112 lv rfl rfl rfl rfl lM AE ck a06 a06 (S.size) (λVs ads aph YG tc=>?_);have:=ah g2;replace dZ:=(tc.mem _ this).2 dZ;replace g2:=tc.bY g2 (λh=>by first|exact lM.eN g2 h|exact lM.fN g2 q0 h|(have:=(lM.base _ h).1;omega));replace CF:=CF.le tc.le;replace Ph:=Ph.le tc.le;replace AE:=AE.le tc.le;replace oA:=oA.step tc (λb h1 h2=>oA.jK lM q0 h1 h2);replace oG:=oG.step tc (λb h1 h2=>oG.jK lM q0 h1 h2);replace iq:=iq.stepT tc a42;replace hM:=tc.lt hM;have:=S.size;replace S:=S.cf tc lM (aK _);replace lM:=YG;refine ad ⟨G,G,λh=>absurd G h,a7 (o':=3) dD G G Lx q0 G G (ad ⟨G,G,λh=>absurd G h,?_⟩)⟩;refine cA (M:=ads) Lx rfl rfl g2 rfl (by obtain⟨_,_,he,_⟩:=lM.isSlice;rw[he];rfl) dZ (λadt Vt rL=>?_);change adt.heap[_]? =some (Obj.cells #[vi,vs,rk,Vs] _ _)at Vt;have:=ah g2;replace dZ:=(rL.mem _ this).2 dZ;replace CF:=CF.le rL.le;replace Ph:=Ph.le rL.le;replace AE:=AE.le rL.le;replace oA:=oA.step rL (λc hc (h:c=gR)=>oA.fN g2 q0 (h▸hc));replace oG:=oG.step rL (λc hc (h:c=gR)=>oG.fN g2 q0 (h▸hc))
     replace lM:=lM.step rL (λc hc (h:c=gR)=>lM.fN g2 q0 (h▸hc));replace iq:=iq.stepT rL a42;replace hM:=rL.lt hM;have:=S.size;replace S:=S.trans rL (λk hk h=>by have h:_=_:=h;subst h;first|(exfalso;omega)|(show _<=_;omega)|exact⟨by first|omega|assumption,(S.mem _ hk).1 ((rL.mem _ (ah g2)).1 dZ)⟩|exact .inl rfl|exact .inr rfl|exact .inr (.inl rfl)|exact .inr (.inr rfl)|exact .inr (.inr (.inl rfl))|exact rfl);have OB:=Vt;clear g2;have g2:=OB;clear OB;refine ad ⟨G,G,λh=>absurd G h,tf (ay (aX G G G hV (ab G G (ad ?_))))⟩;refine⟨G,(i3+1,Vs),a74,?_,?_⟩
     ·exact⟨_,hM,S,iq,g2,dZ,oA,oG,by rw[cj,YF,dS,eH];exact lM,CF,by dsimp only;omega⟩
     ·dsimp only;omega
    ·refine de (T.aU (eM (vs:=[vi,vs,rk,vl]) dD G TL G G G g2 ?_));rw[bM hV]at lM;have hpa:RT.pa.V M _ (j6 L) _:=aiM (x:=j6 L) (oA.close jq S (by show(L.map _).length<=_;rw[cg];omega)) (oG.close jq S (by show(L.map _).length<=_;rw[cg];omega)) (CF.le (pz jq S)) (lM.close jq S (by show((keysOf L).map _).length<=_;rw[cg];omega));replace S:=S.back;replace hM:=S.lt jq;refine aV G G E52 (Ik (p:=j6 L) _ hM hpa (TQ hF hV)) (λr17 w17 hc=>?_);obtain⟨s17,adu,_⟩:=hc;obtain⟨sg,rfl,Dr⟩:=adu (Yr fh hV);replace S:=S.ar s17;refine cP G G G (cP G G G (aJ G G (Rg.a8 G G (aS ?_))));exact fk G G G ⟨sg,G,Dr,S⟩
end Go.K
namespace Go.K
open Go.Proofs
set_option maxRecDepth 10000
theorem xF {id:Int}:∀(fs:List Fd) (i:Nat) (out:List Fd),oX (id,out)=0->oX (id,oZ id i out fs)=0
 |[],_,_,h=>h
 |x::fs,i,out,h=>by
  unfold oZ
  split
  ·split
   ·rename_i h1;exact xF fs _ _ h1
   ·exact xF fs _ _ h
  ·exact h
theorem qb {id:Int}:∀(fs:List Fd) (i:Nat) (out:List Fd),tR out->tR (oZ id i out fs)
 |[],_,_,h=>h
 |x::fs,i,out,h=>by
  unfold oZ
  split
  ·rename_i hi
   split
   ·exact qb fs _ _ (h.snoc (Aa x hi))
   ·exact qb fs _ _ h
  ·exact h
theorem LD (d:Dc):oX (qp d)=0:=xF d.2 0 [] rfl
theorem F8 (d:Dc):tR (qp d).2:=qb d.2 0 [] (λx h=>by cases h)
theorem F9 {e:En}:∀{L:List En} {last:Int},CC last (L++[e])=(CC last L&&decide (o9 (nZ last L) e=0))
 |[],last=>by show(decide (o9 last e=0)&&true)=(true&&decide (o9 last e=0));rw[mq,dF]
 |x::L,last=>by rw[wK];show(decide (o9 last x=0)&&CC x.2 (L++[e]))=(decide (o9 last x=0)&&CC x.2 L&&decide (o9 (nZ x.2 L) e=0));rw[F9 (L:=L),Bool.and_assoc]
theorem AF {e:En}:∀{L:List En} {last:Int},nZ last (L++[e])=e.2
 |[],_=>rfl
 |x::L,last=>by simp only[wK,nZ];exact AF
theorem Ga (l:List Dc) {a s:Int} (ha:0<=a) (hs:1<=s):∀k,CC (-1) (gT l a s k)=true/\nZ (-1) (gT l a s k)<a+s*(k:Int)
 |0=>⟨rfl,by show(-1:Int)<_;simp;omega⟩
 |k+1=>by
  obtain⟨h1,h2⟩:=Ga l ha hs k;have e1:a+s*((k+1:Nat):Int)=a+s*(k:Int)+s:=by rw[Int.natCast_add,Int.mul_add];simp;omega
  cases h:l[k]? with
  |none=>rw[Af (List.getElem?_eq_none_iff.1 h),e1];exact⟨h1,by omega⟩
  |some d=>
   rw[Ae h,F9,AF,h1,e1]
   have:o9 (nZ (-1) (gT l a s k)) (qp d,a+s*(k:Int))=0:=by
    unfold o9;rw[if_neg (λh=>h (LD d)),if_neg (by show¬(a+s*(k:Int)<=_);omega)]
   exact⟨by rw[this];rfl,by show a+s*(k:Int)<_;omega⟩
theorem CG {l:List Dc} {a s:Int}:∀{k:Nat} {e:En},e∈gT l a s k->∃d,e.1=qp d
 |0,e,h=>by cases h
 |k+1,e,h=>by
  rw[gT]at h;rcases dH.1 h with h|h
  ·exact CG h
  ·split at h
   ·rename_i d _;rw[cV.1 h];exact⟨d,G⟩
   ·cases h
theorem AG {l:List Dc} {a s:Int} {k:Nat}:∀e∈gT l a s k,∀f∈e.1.2,f.1.length<=900000/\f.2.length<=900000:=λe he f hf=>by
 obtain⟨d,hd⟩:=CG he;rw[hd]at hf;have:=F8 d f hf;omega
theorem Qe:words [97]=[[97]]:=by
 have h:dM [97]=[97]:=by rw[lg (by simp)];simp[dec,Dl,kC,kx,mB]
 unfold words;rw[h];simp[eP];rfl
def ej (fs:List Fd) (k:List UInt8):List (List UInt8):=match fs.find? (λf=>decide (f.1=k))with|some f=>words f.2|none=>[]
theorem Gb {fs:List Fd} {k:List UInt8} {i:Nat} {x:Fd} (h:fs[i]? =some x) (hx:x.1=k) (ka:∀(j:Nat) y,j<i->fs[j]? =some y->y.1≠k):ej fs k=words x.2:=by
 have:fs.find? (λf=>decide (f.1=k))=some x:=by
  induction fs generalizing i with
  |nil=>simp at h
  |cons y fs ih=>
   cases i with
   |zero=>simp at h;subst h;simp[hx]
   |succ i=>
    rw[List.find?_cons_of_neg (by simpa using ka 0 y hV rfl)];exact ih a84 (λj z hj hz=>ka (j+1) z hV (by simpa using hz))
 unfold ej;rw[this]
def jO (ws:List (List UInt8)) (x:List UInt8):List Int:=(ws.zipIdx.filter λp=>decide (p.1=x)).map λp=>(p.2:Int)
theorem LF {ws:List (List UInt8)} {x y:List UInt8} {i:Nat} (h:ws[i]? =some y):jO (ws.take (i+1)) x=if y=x then jO (ws.take i) x++[(i:Int)]else jO (ws.take i) x:=by
 have hi:=(ak.1 h).1;unfold jO;rw[cj,h,dS,List.zipIdx_append,iJ,eH];simp only[bI,yZ (Nat.le_of_lt hi),oH,List.zipIdx_cons,List.zipIdx_nil];by_cases e:y=x
 ·rw[if_pos e];simp[e]
 ·rw[if_neg e];simp[e]
theorem Gc (ws:List (List UInt8)) (x:List UInt8):(jO ws x).length<=ws.length:=by
 unfold jO;rw[cg];exact ch (fA _ _) (by simp)
section
variable {P:Program} {r:Option Nat} {n:Nat} {L:Sl} {ds:List Deferred} {w:World} {K:Kt} {ops:Array Oper} {rest:List Oper} {d:Nat} {x y:Operand} {ty:TypeId} {pos:String} {af:Array Edge}
theorem mh {t:TypeId} (ht:P.underlying t=some .string) {cs:Array Value} {off:Nat} {v:Value} (hv:cs[off]? =some v):(part t cs off).run P w= .ok v w:=by
 have G6:(isAgg t).run P w= .ok false w:=by
  unfold isAgg;rw[cw,run_underlying ht w];simp
 unfold part;rw[cw,G6];simp[hv]
theorem Gd {t:TypeId} {f g:Field} {k:Nat} {xs ys:Array Value} {a b a' b':Value} {c e:Bool} (ht:P.underlying t=some (.struct #[f,g])) (hp:P.stoodInHeld t=false) (hn:f.name≠ "_") (Mv:g.name≠ "_")
  (p1:(part f.type xs f.offset).run P w= .ok a w) (p2:(part f.type ys f.offset).run P w= .ok b w) (p3:(part g.type xs g.offset).run P w= .ok a' w) (p4:(part g.type ys g.offset).run P w= .ok b' w)
  (h1:(Op.equalIn k f.type a b).run P w= .ok c w) (h2:(Op.equalIn k g.type a' b').run P w= .ok e w):(Op.equalIn (k+1) t (.agg xs) (.agg ys)).run P w= .ok (c&&e) w:=by
 have Uy:P.fieldsOf t= #[f,g]:=by simp[Program.fieldsOf,ht]
 rw[run_equalIn_struct (P:=P) w k t xs ys (by rw[Uy];exact ht) hp,Uy];simp only[Op.eqFields,hn,Mv,ne_eq,not_false_eq_true,if_true,cw,p1,p2,p3,p4,h1,h2,cM]
 cases c
 ·simp
 ·simp only[Bool.not_true,Bool.false_eq_true,if_false,cw,p3,p4,h2,cM]
  cases e<;>simp
theorem J3 (a b:List UInt8):((⟨a.toArray⟩:ByteArray).toList==(⟨b.toArray⟩:ByteArray).toList)=decide (a=b):=by
 rw[ByteArray.toList_eq,ByteArray.toList_eq];show(a==b)=_;by_cases h:a=b
 ·subst h;simp
 ·simp[h]
end
end Go.K

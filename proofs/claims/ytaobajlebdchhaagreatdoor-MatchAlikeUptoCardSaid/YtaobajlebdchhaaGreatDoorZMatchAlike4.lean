/- What the law 'MatchAlike' needs of walks and plain Lean, part 4: nothing is assumed beyond the texts that it imports. -/
import Derived.KernelRfl
import Derived.Laws.StructEq
import Derived.Test.YtaobajlebdchhaaGreatDoorProg
import Derived.Test.YtaobajlebdchhaaGreatDoorZMatchAlike1
import Derived.Test.YtaobajlebdchhaaGreatDoorZMatchAlike2
import Derived.Test.YtaobajlebdchhaaGreatDoorZMatchAlike3
set_option linter.unusedVariables false
set_option linter.unusedSimpArgs false
namespace Go.K
open Go.Proofs
set_option maxRecDepth 10000
theorem Cl {M:aH} {w0:World} {v:Value} {b:List UInt8} {n:Nat} (hM:Lt M w0) (hv:(RT.u8.sl).V M w0 b v) (hb:b.length<=70368744177664) (hn:n<=9223372036854775807):
  Spec Tryz.prog 194 #[v,.int .i64 n] w0 (λv' w'=>∃M',Step M w0 M' w' aE/\Own RT.u8 5 M' w' w0.heap.size v' (b++put n)):=by
 have h9:=kF hn;refine a8 (args:=[_,_]) (fn:=Tryz.f194) Tryz.func194 G (n:=26) Tryz.ntmps194 (T.aP (Rg.bg G G (T.aP (ab G G (ab G G ?_)))))
 first|refine bN bT rfl Ub rfl ?_|refine iQ bT rfl Ub rfl ?_
 refine ab G G ?_
 first|refine bN bT rfl Ub rfl ?_|refine iQ bT rfl Ub rfl ?_
 refine Rg.Fy bT I5 G G G G hv ⟨G,G⟩ (λa mY sI=>?_);refine Rg.bg G G (aN (aY ?_));refine dz (σ:=Nat×Value×List UInt8) (λs=>[(0,s.2.1),(1,.int .i64 s.1)]) (λs w=>s.2.2++put s.1=b++put n/\∃M1,Lt M1 w/\Step M w0 M1 w aE/\Grow RT.u8 q0 5 M1 w w0.heap.size s.2.1 s.2.2) (λs=>s.1) (n,_,b) a73 ?_ ?_
 ·exact⟨G,M,hM,aV,.inr ⟨a,G,sI,mY⟩⟩
 ·rintro⟨k,u0,acc⟩ w1 ⟨zX,M1,oG,s1,hg⟩;dsimp only at zX hg ⊢;have hlen:=congrArg List.length zX;have xE:=Qv k;simp only[bG]at hlen;refine aN (T.aP (ab G G (ed G G G (ad ?_))));refine bF G (λc2=>?_) (λc2=>?_)
  ·refine aR (aY (T.aP (ab G G (ab G G (vJ ak cP G G (Rg.or G G G (bh (congrArg _ (Rs _)) ?_)))))));refine fp (A:=RT.u8) (hn:=by decide) (M:=M1) bT I5 q0 G G oG (Uj.2 G) (.inr ⟨G,G⟩) (λu w2 hu s2=>?_);refine Rg.HA (M:=M1) (base:=w0.heap.size) bT I5 G G G G (hg.le s2) hu cf (by simp) a08 a08 (du s1.size s2.size) (λv3 M3 w3 P2 s3=>?_);refine Rg.bg G G (aL (ab G G (Rg.shr G G G hV (bh (congrArg _ (ahQ _)) (Rg.bg G G ?_)))));refine⟨G,(k/128,v3,acc++[UInt8.ofNat (128+k%128)]),a73,?_,?_⟩
   ·exact⟨by rw[<-zX,FH (n:=k) hV];simp,M3,s3.lt (s2.lt oG),(s1.ax s2).ly s3 (br _),.inl P2⟩
   ·show k/128<k;omega
  ·refine cQ (T.aP (ab G G (ab G G (vJ ak cP G G (bh (congrArg _ (Gz _)) ?_)))));refine fp (A:=RT.u8) (hn:=by decide) (M:=M1) bT I5 q0 G G oG (Uj.2 G) (.inr ⟨G,G⟩) (λu w2 hu s2=>?_);refine Rg.HA (M:=M1) (base:=w0.heap.size) bT I5 G G G G (hg.le s2) hu cf (by simp) a08 a08 (du s1.size s2.size) (λv3 M3 w3 P2 s3=>?_);refine Rg.bg G G (aJ (aM G G ⟨M3,(s1.ax s2).ly s3 (br _),?_⟩));rw[<-zX,xS (n:=k) hV];exact P2
theorem NI {M:aH} {w0:World} {v:Value} {b:List UInt8} {n:Nat} (hM:Lt M w0) (hv:(RT.u8.sl).V M w0 b v) (hb:b.length<=70368744177664) (hn:n<=9223372036854775807):
  Spec Tryz.prog 194 #[v,.int .i64 n] w0 (λv' w'=>Step M w0 M w' aE/\(RT.u8.sl).V M w' (b++put n) v'):=
 (Cl hM hv hb hn).mono λ_ _ ⟨_,s,ho⟩=>⟨s.back,xd hM s ho (by have:=kF hn;simp;omega)⟩
theorem Eo {M:aH} {w0:World} {v:Value} {b:List UInt8} {at_:Int} (hv:(RT.u8.sl).V M w0 b v) (Fu: -9223372036854775808<=at_/\at_<=9223372036854775807):
  Spec Tryz.prog 303 #[v,.int .i64 at_] w0 (λv' w'=>v'= .tuple #[.int .i64 (get b at_).1,.int .i64 (get b at_).2.1,.int .i64 (get b at_).2.2]/\w0=w'):=by
 have hlen:=dQ hv;refine a8 (args:=[_,_]) (fn:=Tryz.f303) Tryz.func303 G (n:=54) Tryz.ntmps303 (T.aP (aF G G (aF G G (Rg.bg G G (aN (T.aP (ab G G (cy G G G ?_))))))));refine ab G G ?_;refine aO (g:=12) G (λir=>?_) (λir=>?_)
 ·obtain Wm:at_<0\/(b.length:Int)<at_:= .inl ir;refine aj G G G G (aj G G G G (aj G G G G (aj G G G G (aU G G G (ad (kJ G (T.aP (aF G G (aF G G (aF G G ?_))))))))));refine ad (aJ ?_);have iy:get b at_=(0,0,1):=by unfold get;rw[if_pos Wm]
  exact qO rfl rfl rfl rfl ⟨by rw[iy],rfl⟩
 ·refine ah G G (ab G G (ah G G (ab G G (ah G G ?_))))
  first|refine bN bT rfl Ub rfl ?_|refine iQ bT rfl Ub rfl ?_
  refine ah G G (fU G G G (az G G G (ad ?_)));refine bF G (λc1=>?_) (λc1=>?_)
  ·obtain Wm:at_<0\/(b.length:Int)<at_:= .inr c1;refine T.aP (aF G G (aF G G (Rg.bg G G (aJ ?_))));have iy:get b at_=(0,0,1):=by unfold get;rw[if_pos Wm]
   exact qO rfl rfl rfl rfl ⟨by rw[iy],rfl⟩
  ·refine aR (T.aP (Rg.bg G G (aN (T.aP (ab G G (ab G G (ab G G ?_)))))))
   first|refine bN bT rfl Ub rfl ?_|refine iQ bT rfl Ub rfl ?_
   refine ab G G (bB G G G hV (Rg.min2 G G G ?_));refine Rg.CT bT I5 G G G G hv hV (λu hu=>?_);rw[show(min (b.length:Int) (at_+9)).toNat=min b.length (at_.toNat+9)from by omega,UL]at hu;have iy:get b at_=match nu ((b.drop at_.toNat).take 9) 0 0 with|some (n,k)=>((n:Int),at_+k,0)|none=>(0,0,2):=by unfold get;rw[if_neg hV];rfl
   have sy:((b.drop at_.toNat).take 9).length<=9:=by rw[a7];omega
   generalize (b.drop at_.toNat).take 9=bs at hu iy sy
   first|refine bN bT rfl Ub rfl ?_|refine iQ bT rfl Ub rfl ?_
   refine ab G G (ad (aY ?_));refine dz (σ:=Nat×Nat) (λs=>[(1,.int .i64 at_),(25,u),(26,.int .i64 bs.length),(27,.int .i64 s.1),(7,.int .i64 s.2)]) (λs w=>w0=w/\s.1<=bs.length/\s.2<128^s.1/\nu (bs.drop s.1) s.1 s.2=nu bs 0 0) (λs=>bs.length-s.1) (0,0) a65 ?_ ?_
   ·exact⟨rfl,bm _,by decide,rfl⟩
   ·rintro⟨k,m⟩ w1 ⟨rfl,hk,hm,hg⟩;dsimp only at hk hm hg ⊢;refine T.aP (cy G G G (ad (aN ?_)));refine bF G (λc5=>?_) (λc5=>?_)
    ·refine aR (aN (aY (T.aP (ab G G ?_))));refine cD (M:=M) bT I5 G G G Ub (by repeat (first|exact bI _ _|refine aX (bJ Ub) ?_)) hV (λaqB Rt Ep amn=>?_);refine Rg.Um (M:=M) cP G G Ub (by repeat (first|exact bI _ _|refine aX (bJ Ub) ?_)) ?_;refine aF G G (Rg.bg G G (T.aP (ab G G (ab G G (Rg.andNot G G G (bh (congrArg _ (Em _)) (Rg.uu cP ak G G hV (ab G G (Rg.Uk G G G hV ?_)))))))));refine Rg.shl G G G hV (Rg.or G G G (bh (congrArg _ (NH k m _ hV hm hV)) (Rg.bg G G (T.aP (ab G G (cy G G G (ad ?_)))))));refine bF G (λc8=>?_) (λc8=>?_)
     ·refine aN (T.aP (ab G G (ic G G G (ab G G ?_))));refine aO (g:=44) G (λoH=>?_) (λoH=>?_)
      ·refine ah G G (ab G G (ah G G (fU G G G (aU G G G (ad ?_)))));refine bF G (λc9=>?_) (λc9=>?_)
       ·refine cQ (T.aP (aF G G (aF G G (Rg.bg G G (aJ ?_)))))
        have hr:nu bs 0 0=none:=by
         rw[<-hg]
         first
         |(rw[nv (by simpa using Ep),if_pos hV,if_pos hV])
         |(rw[eT hV];rfl)
        exact qO rfl rfl rfl rfl ⟨by rw[iy,hr],rfl⟩
       ·refine aR (T.aP (ab G G (ab G G (ab G G (bB G G G hV (bB G G G hV (aF G G (aF G G (Rg.bg G G ?_)))))))));refine aJ ?_;have hr:nu bs 0 0=some (m+Rt.toNat%128*128^k,k+1):=by rw[<-hg,nv (by simpa using Ep),if_pos hV,if_neg hV]
        exact qO rfl rfl rfl rfl ⟨by rw[iy,hr];simp;omega,rfl⟩
      ·refine aj G G G G (aj G G G G (az G G G (ad (iS G (aR (T.aP (ab G G (ab G G (ab G G (bB G G G hV ?_))))))))));refine bB G G G hV (aF G G (aF G G (Rg.bg G G (aJ ?_))));have hr:nu bs 0 0=some (m+Rt.toNat%128*128^k,k+1):=by rw[<-hg,nv (by simpa using Ep),if_pos hV,if_neg hV]
       exact qO rfl rfl rfl rfl ⟨by rw[iy,hr];simp;omega,rfl⟩
     ·refine aR (aL (bB G G G hV (ab G G (ad ?_))));refine⟨G,(k+1,m+Rt.toNat%128*128^k),a65,?_,?_⟩
      ·refine⟨rfl,by simp only;omega,?_,?_⟩
       ·have:=Nat.mul_le_mul_right (128^k) (show Rt.toNat%128<=127 from by omega);simp only[Nat.pow_succ];omega
       ·rw[nv (by simpa using Ep),if_neg hV]at hg;exact hg
      ·simp only;omega
    ·refine cQ (T.aP (aF G G (aF G G (Rg.bg G G (aJ ?_)))))
     have hr:nu bs 0 0=none:=by
      rw[<-hg]
      first
      |(rw[nv (by simpa using Ep),if_pos hV,if_pos hV])
      |(rw[eT hV];rfl)
     exact qO rfl rfl rfl rfl ⟨by rw[iy,hr],rfl⟩
theorem Al {M:aH} {w0:World} {v u:Value} {b:List UInt8} {l:List Int} (hM:Lt M w0) (hv:(RT.u8.sl).V M w0 b v) (hu:((RT.int .i64).sl).V M w0 l u) (hb:b.length+9*(l.length+1)<=70368744177664):
  Spec Tryz.prog 195 #[v,u] w0 (λv' w'=>∃M' x,Step M w0 M' w' aE/\v'= .tuple #[x,.int .i64 (if fT (-1) l then 0 else 1)]/\Own RT.u8 5 M' w' w0.heap.size x (if fT (-1) l then b++eM l else[])):=by
 have xg:=kF (n:=l.length) hV;refine a8 (args:=[_,_]) (fn:=Tryz.f195) Tryz.func195 G (n:=31) Tryz.ntmps195 (T.aP (aF G G (Rg.bg G G (T.aP (ab G G (ab G G (bN av G hu G ?_)))))));refine aQ G G U3 (Cl (M:=M) hM hv hV hV) (λub wb CR=>?_);obtain⟨Mb,sb,gI⟩:=CR;refine Rg.bg G G (T.aP (Rg.bg G G (aN (T.aP (ab G G (bN av G hu G (ab G G ?_)))))));refine ad (aY ?_);refine dz (σ:=Nat×Int×Value×List UInt8) (λs=>[(0,s.2.2.1),(6,.int .i64 s.2.1),(13,u),(14,.int .i64 l.length),(15,.int .i64 s.1)]) (λs w=>fT (-1) l=fT s.2.1 (l.drop s.1)/\(fT (-1) l=true->s.2.2.2++kX s.2.1 (l.drop s.1)=b++eM l)/\s.1<=l.length/\ -1<=s.2.1/\s.2.2.2.length<=b.length+9*(s.1+1)/\∃M1,Lt M1 w/\Step M w0 M1 w aE/\Own RT.u8 5 M1 w w0.heap.size s.2.2.1 s.2.2.2) (λs=>l.length-s.1) (0,-1,_,b++put l.length) a65 ?_ ?_
 ·exact⟨rfl,λ_=>by simp[eM],bm _,by simp only;omega,by simp;omega,Mb,sb.lt hM,sb,gI⟩
 ·rintro⟨k,last,u0,acc⟩ w1 ⟨hr,zX,hk,Rr,hal,M1,oG,s1,ho⟩;dsimp only at hr zX hk Rr hal ho ⊢;refine T.aP (cy G G G (ad (aN ?_)));refine bF G (λc4=>?_) (λc4=>?_)
  ·refine aR (aN (aY (T.aP ?_)));obtain⟨x,hx⟩:∃x,l[k]? =some x:=⟨_,an hV⟩;have hxr:=K0 hu hx;refine cD av I3 G G G (hu.le (s1.back).le) cf hV (λaaS NJ aaT H9=>?_);obtain rfl:NJ=x:=aK (aaT.symm.trans ad1);refine b4 ak G G H9 cf (λ_=>?_);refine Rg.bg G G (aN (T.aP (ab G G (ab G G (fQ G G G (ad ?_))))));refine bF G (λc6=>?_) (λc6=>?_)
   ·refine T.aP (aF G G (Rg.bg G G (aJ ?_)));have hrf:fT (-1) l=false:=by rw[hr,gq hx,decide_eq_false hV,eL]
    exact eX rfl rfl rfl ⟨M1,_,s1,by rw[hrf];rfl,by rw[hrf];exact eG _ _ _ _ _⟩
   ·refine aR (T.aP (ab G G (ab G G (ab G G (Rg.Ul G G G (Rg.Ul G G G ?_))))));have hpx:=kF (n:=(NJ-last-1).toNat) hV;refine bh (v':= .int .i64 (((NJ-last-1).toNat:Nat):Int)) (by rw[IntKind.wrap_i64,IntKind.wrap_i64];congr 1;omega) ?_;have hfz:=s1.freeze (v:=u0) (λb hb=>(ho.base b hb).1);refine aQ G G U3 (Cl (M:=rm M1 u0) (oG.rm u0) (ho.view hV) hV hV) (λub wb CR=>?_);obtain⟨Mb2,sb2,ahR⟩:=CR;refine Rg.bg G G (aL (ab G G (Rg.bg G G (aL (bB G G G hV (ab G G (ad ?_)))))));refine⟨G,(k+1,NJ,ub,acc++put (NJ-last-1).toNat),a65,?_,?_⟩
    ·refine⟨?_,λh=>?_,by simp only;omega,by simp only;omega,by simp only[bG];omega,Mb2,sb2.lt (oG.rm u0),hfz.ax sb2,ahR.iJ s1.size⟩
     ·rw[hr,gq hx,decide_eq_true hV,dr]
     ·rw[<-zX h,I7 hx];simp
    ·simp only;omega
  ·refine cQ (T.aP (ab G G (aF G G (Rg.bg G G (aJ ?_)))));have hrt:fT (-1) l=true:=by rw[hr,eT hV];rfl
   have ha:=zX hrt;rw[eT hV,kX,fz]at ha;exact eX rfl rfl rfl ⟨M1,_,s1,by rw[hrt];rfl,by rw[hrt,<-ha];exact ho⟩
theorem yU {M:aH} {w0:World} {v u:Value} {b:List UInt8} {l:List Int} (hM:Lt M w0) (hv:(RT.u8.sl).V M w0 b v) (hu:((RT.int .i64).sl).V M w0 l u) (hb:b.length+9*(l.length+1)<=70368744177664):
  Spec Tryz.prog 195 #[v,u] w0 (λv' w'=>∃x,Step M w0 M w' aE/\v'= .tuple #[x,.int .i64 (if fT (-1) l then 0 else 1)]/\(RT.u8.sl).V M w' (if fT (-1) l then b++eM l else[]) x):=
 (Al hM hv hu hb).mono λ_ _ ⟨_,x,s,h,ho⟩=>⟨x,s.back,h,xd hM s ho (by
  split
  next hr=>
   have xg:=kF (n:=l.length) hV;have ie:∀x∈l,x<=9223372036854775807:=λx hx=>by obtain⟨i,hi⟩:=bO.1 hx;exact(K0 hu hi).2
   have:=xT l (-1) q0 ie hr;simp only[eM,bG];omega
  next=>simp)⟩
theorem Bb {M:aH} {w0:World} {be bb ba:Nat} {v:Value} {b:List UInt8} {at_:Int} (he:w0.heap[be]? =some (.cells #[.int .i64 0] 32 (0,0))) (hb:w0.heap[bb]? =some (.cells #[v] 293 (0,0))) (ha:w0.heap[ba]? =some (.cells #[.int .i64 at_] 3 (0,0))) (fq:be≠ba) (Wn:M be) (KP:M ba) (hv:(RT.u8.sl).V M w0 b v) (Fu: -9223372036854775808<=at_/\at_<=9223372036854775807):
  Spec Tryz.prog 316 #[.pointer (some ⟨be,0,none⟩),.pointer (some ⟨bb,0,none⟩),.pointer (some ⟨ba,0,none⟩)] w0 (λv' w'=>v'= .int .i64 (get b at_).1/\w'.heap[be]? =some (.cells #[.int .i64 (get b at_).2.2] 32 (0,0))/\w'.heap[ba]? =some (.cells #[.int .i64 (get b at_).2.1] 3 (0,0))/\Step M w0 M w' (λk=>k=be\/k=ba)):=by
 refine a8 (args:=[_,_,_]) (fn:=Tryz.f316) Tryz.func316 G (n:=15) Tryz.ntmps316 (T.aP (Rg.bg G G (aN (T.aP (aG vK G G G Ub G (eW G G G (ad ?_)))))));refine bF G (λc1=>?_) (λc1=>?_)
 ·exact absurd G c1
 ·refine aR (T.aP (Rg.bg G G (T.aP (aG bT G G G Ub G (aG ak G G G Ub G ?_)))));refine aQ G G Zt (Eo hv Fu) (λr w1 h1=>?_);obtain⟨rfl,rfl⟩:=h1;refine ab G G (cq G G G (cq G G G (cq G G G (aF G G ?_))));refine cg (M:=M) I3 G G ha G G KP (λw1 h1 s1=>?_);refine cg (M:=M) I32 G G (s1.bR he fq) G G Wn (λw2 h2 s2=>?_);refine ad (T.aP (ab G G (Rg.bg G G (aJ (aM G G ⟨G,h2,s2.bR h1 (Ne.symm fq),?_⟩)))));exact(s1.ek (λb hb=> .inr hb) (λb hb=>by rcases hb with rfl|rfl<;>assumption)).trans s2 (λb _ hb=> .inl hb)
theorem yV {M:aH} {w0:World} {v:Value} {b:List UInt8} {at_:Int} (hM:Lt M w0) (hv:(RT.u8.sl).V M w0 b v) (Fu: -9223372036854775808<=at_/\at_<=9223372036854775807) (sy:b.length<=1099511627776):
  Spec Tryz.prog 304 #[v,.int .i64 at_] w0 (λv' w'=>∃x,v'= .tuple #[x,.int .i64 (gE b at_).2.2,.int .i64 (gE b at_).1]/\((RT.int .i64).sl).V M w' (gE b at_).2.1 x/\Step M w0 M w' aE):=by
 refine a8 (args:=[_,_]) (fn:=Tryz.f304) Tryz.func304 G (n:=48) Tryz.ntmps304 (T.aP ?_);refine o2 M G G (λbb w1 LP aqD hB s1=>?_);rw[iO hv]at hB;refine o2 (ins M bb) G G (λba w2 hba aqE hA s2=>?_);refine aF G G (aF G G (Rg.bg G G (T.aP ?_)));refine ec (ins (ins M bb) ba) I32 G (λbe w3 hbe aqF hE s3=>?_);refine cg (M:=ins (ins (ins M bb) ba) be) I32 G G hE G G (.inl G) (λw4 hE4 s4=>?_);have z1:=s1.size;have z2:=s2.size;have z3:=s3.size;have z4:=s4.size;have S4:Step M w0 (ins (ins (ins M bb) ba) be) w4 aE:=((s1.ax s2).ax s3).ch s4 (λk hk=>by subst hk;omega);have hB4:=s4.bR (s3.aB (s2.aB hB)) (show bb≠be by omega);have hA4:=s4.bR (s3.aB hA) (show ba≠be by omega);refine ad (T.aP (jd (xs:=[]) G G G (Rg.bg G G (T.aP (Rg.bg G G (T.aP ?_))))));refine Rg.bg G G (aN (T.aP (ab G G ?_)));refine uk (first:=[]) (xs:=[]) G G G Zu (Bb (M:=ins (ins (ins M bb) ba) be) hE4 hB4 hA4 hV (.inl G) (.inr (.inl G)) (hv.le S4.le) Fu) (λr w5 h5=>?_);obtain⟨rfl,hE5,hA5,s5⟩:=h5;have z5:=s5.size;have S5:=S4.ch s5 (λk hk=>by omega);have hB5:=s5.bR hB4 hV;obtain⟨hn0,hn1,hn2,hn3⟩:=n0 b at_;refine bh (v':= .int .i64 (((get b at_).1.toNat:Nat):Int)) (by rw[zM hn0]) (Rg.bg G G (aY ?_));refine dz (σ:=Nat×Int×Value×List Int×Int×Int) (λs=>[(7,.pointer (some ⟨be,0,none⟩)),(3,.pointer (some ⟨ba,0,none⟩)),(8,.func (.func 316) [].toArray [.pointer (some ⟨be,0,none⟩),.pointer (some ⟨bb,0,none⟩),.pointer (some ⟨ba,0,none⟩)].toArray),(9,s.2.2.1),(10,.int .i64 s.2.1),(11,.int .i64 s.1)]) (λs w=>(s.1:Int)<=9223372036854775807/\(s.2.2.2.2.1=0->gE b at_=andThen s.2.2.2.1 (ik b s.1 s.2.2.2.2.2 s.2.1))/\(s.2.2.2.2.1≠0->gE b at_=(s.2.2.2.2.1,[],0))/\(s.2.2.2.2.1=0-> -1<=s.2.1/\s.2.1<=4611686018427387904/\(s.2.2.2.1.length:Int)<=s.2.2.2.2.2/\s.2.2.2.2.2<=b.length)/\s.2.2.2.1.length<=b.length+1/\∃M1,Lt M1 w/\Step M w0 M1 w aE/\w4.heap.size<=w.heap.size/\M1 be/\M1 ba/\Own (RT.int .i64) 3 M1 w w4.heap.size s.2.2.1 s.2.2.2.1/\w.heap[be]? =some (.cells #[.int .i64 s.2.2.2.2.1] 32 (0,0))/\w.heap[ba]? =some (.cells #[.int .i64 s.2.2.2.2.2] 3 (0,0))/\w.heap[bb]? =some (.cells #[v] 293 (0,0))) (λs=>s.1) ((get b at_).1.toNat,-1,_,[],(get b at_).2.2,(get b at_).2.1) a11 ?_ ?_
 ·refine⟨by have:=AK b at_;simp only;omega,λh=>?_,λh=>?_,λh=>?_,by simp,_,S5.lt hM,S5,z5,.inl rfl,.inr (.inl rfl),eG _ _ _ _ _,hE5,hA5,hB5⟩
  ·unfold gE;rw[if_neg a81];exact(C6 _ (I8 b _ _ _)).symm
  ·unfold gE;rw[if_pos h]
  ·have:=uA h;simp only[jE];omega
 ·rintro⟨many,last,u0,acc,e,a1⟩ wl ⟨hmb,TA,Yg,eZ,hal,M1,oG,S,zl,Wn,KP,ho,hE,hA,hB⟩;dsimp only at hmb TA Yg eZ hal ho hE hA hB ⊢;refine aN (T.aP (ab G G (fU G G G (ab G G ?_))));refine aO (g:=18) G (λVb=>?_) (λVb=>?_)
  ·refine ah G G (aG vK G G G Ub G (ah G G (ic G G G (aU G G G (ad ?_)))));refine bF G (λc6=>?_) (λc6=>?_)
   ·refine aR (aN (aY (T.aP (ab G G ?_))));refine uk (first:=[]) (xs:=[]) rfl rfl rfl Zu (Bb (M:=M1) (by rw[c6]at hE;exact hE) hB hA hV Wn KP (hv.le S.le) (by have:=eZ c6;omega)) (λr w6 h6=>?_);obtain⟨rfl,hE6,Ia,s6⟩:=h6;have z6:=s6.size;have S6:=S.ch s6 (λk hk=>by omega);have Ib:=s6.bR hB hV;have yK:=ho.step s6 (λk hk h=>by have:=(ho.base k hk).1;omega);have NK:=s6.lt oG;obtain⟨hn0,hn1,hn2,hn3⟩:=n0 b a1;obtain⟨pD,BF,hk3,hk4⟩:=eZ c6;refine Rg.bg G G (aN (T.aP (aG vK G G G Ub G (ic G G G (ab G G ?_)))));refine aO (g:=28) G (λoH=>?_) (λoH=>?_)
    ·refine ah G G (ab G G (ah G G (ab G G (ah G G (jw G G G hV (ah G G (jw G G G hV (ah G G (fU G G G (aU G G G (ad ?_)))))))))));refine bF G (λc9=>?_) (λc9=>?_)
     ·refine aL ?_;refine cg (M:=M1) I32 G G hE6 G G Wn (λw7 hE7 s7=>?_);have z7:=s7.size;replace S6:=S6.ch s7 (λk hk=>by subst hk;omega);replace Ib:=s7.bR Ib (show bb≠be by omega);replace Ia:=s7.bR Ia (show ba≠be by omega);replace yK:=yK.step s7 (λk hk h=>by have:=(ho.base k hk).1;omega);replace NK:=s7.lt NK;replace hE6:=hE7;refine ad (T.aP (ab G G (ab G G (Rg.xF G G G (Rg.xF G G G (Rg.bg G G (aL (ab G G (ab G G ?_)))))))));refine fp (A:=RT.int .i64) (hn:=by decide) (M:=M1) av I3 q0 G G NK (gV (sf _)) (.inr ⟨G,G⟩) (λu w8 hu s8=>?_);refine dH (M:=M1) (base:=w4.heap.size) av I3 rfl rfl rfl rfl (yK.bM s8) hu cf a08 a08 (by have:=s8.size;omega) (λv9 M9 w9 ho9 s9=>?_);have z8:=s8.size;have z9:=s9.size;have jB:∀k,k<w4.heap.size->¬me u0 k:=λk hk h=>by have:=(ho.base k h).1;omega
      have NL:=s9.bR (s8.aB hE6) (jB be hV);have hA9:=s9.bR (s8.aB Ia) (jB ba hV);have hB9:=s9.bR (s8.aB Ib) (jB bb hV);have S9:=(S6.ax s8).dR s9 (yK.bM s8) hV;have hM9:=s9.lt (s8.lt NK);have NM:M9 be:=(s9.mem be hV).2 Wn;have NN:M9 ba:=(s9.mem ba hV).2 KP;refine Rg.bg G G (aL (ab G G (jw G G G hV (Rg.bg G G ?_))));refine⟨G,(many-1,(IntKind.i64.wrap (last+IntKind.i64.wrap ((get b a1).1+1))),v9,acc++[(IntKind.i64.wrap (last+IntKind.i64.wrap ((get b a1).1+1)))],(if(get b a1).2.2=0/\4611686018427387904-last-1<(get b a1).1 then 2 else(get b a1).2.2),(get b a1).2.1),a43,?_,?_⟩
      ·have hx:(get b a1).2.2=0->¬4611686018427387904-last-1<(get b a1).1->(IntKind.i64.wrap (last+IntKind.i64.wrap ((get b a1).1+1)))=last+1+(get b a1).1:=λh1 h2=>by rw[jL ((get b a1).1+1) hV,jL _ hV];omega
       have PU:many=(many-1)+1:=by omega
       have yW:=TA c6;rw[PU]at yW;refine⟨by simp only;omega,λh=>?_,λh=>?_,λh=>?_,by have:=eZ c6;simp only[bG,cz,jE];omega,M9,hM9,S9,by omega,NM,NN,ho9,?_,hA9,hB9⟩
       ·dsimp only at h ⊢;have h3:(get b a1).2.2=0/\¬4611686018427387904-last-1<(get b a1).1:=by split at h<;>omega
        rw[yW,nZ acc h3.1 h3.2,hx h3.1 h3.2]
       ·dsimp only at h ⊢;rw[yW]
        split
        ·rename_i h4;rw[uB h4.1 h4.2];rfl
        ·rename_i h4
         have h5:(get b a1).2.2≠0:=by intro h6;rw[if_neg h4]at h;exact h h6
         rw[rK h5];unfold andThen;rw[if_pos h5]
       ·dsimp only at h ⊢;have h3:(get b a1).2.2=0/\¬4611686018427387904-last-1<(get b a1).1:=by split at h<;>omega
        have:=uA h3.1;rw[hx h3.1 h3.2];simp only[bG,cz,jE];omega
       ·dsimp only
        first
        |(rw[if_pos ⟨oH,c9⟩];exact NL)
        |(rw[if_neg (λh=>c9 h.2)];exact NL)
        |(rw[if_neg (λh=>oH h.1)];exact NL)
      ·simp only;omega
     ·refine aR (T.aP (ab G G (ab G G (Rg.xF G G G (Rg.xF G G G (Rg.bg G G (aL (ab G G (ab G G ?_)))))))));refine fp (A:=RT.int .i64) (hn:=by decide) (M:=M1) av I3 q0 G G NK (gV (sf _)) (.inr ⟨G,G⟩) (λu w8 hu s8=>?_);refine dH (M:=M1) (base:=w4.heap.size) av I3 rfl rfl rfl rfl (yK.bM s8) hu cf a08 a08 (by have:=s8.size;omega) (λv9 M9 w9 ho9 s9=>?_);have z8:=s8.size;have z9:=s9.size;have jB:∀k,k<w4.heap.size->¬me u0 k:=λk hk h=>by have:=(ho.base k h).1;omega
      have NL:=s9.bR (s8.aB hE6) (jB be hV);have hA9:=s9.bR (s8.aB Ia) (jB ba hV);have hB9:=s9.bR (s8.aB Ib) (jB bb hV);have S9:=(S6.ax s8).dR s9 (yK.bM s8) hV;have hM9:=s9.lt (s8.lt NK);have NM:M9 be:=(s9.mem be hV).2 Wn;have NN:M9 ba:=(s9.mem ba hV).2 KP;refine Rg.bg G G (aL (ab G G (jw G G G hV (Rg.bg G G ?_))));refine⟨G,(many-1,(IntKind.i64.wrap (last+IntKind.i64.wrap ((get b a1).1+1))),v9,acc++[(IntKind.i64.wrap (last+IntKind.i64.wrap ((get b a1).1+1)))],(if(get b a1).2.2=0/\4611686018427387904-last-1<(get b a1).1 then 2 else(get b a1).2.2),(get b a1).2.1),a43,?_,?_⟩
      ·have hx:(get b a1).2.2=0->¬4611686018427387904-last-1<(get b a1).1->(IntKind.i64.wrap (last+IntKind.i64.wrap ((get b a1).1+1)))=last+1+(get b a1).1:=λh1 h2=>by rw[jL ((get b a1).1+1) hV,jL _ hV];omega
       have PU:many=(many-1)+1:=by omega
       have yW:=TA c6;rw[PU]at yW;refine⟨by simp only;omega,λh=>?_,λh=>?_,λh=>?_,by have:=eZ c6;simp only[bG,cz,jE];omega,M9,hM9,S9,by omega,NM,NN,ho9,?_,hA9,hB9⟩
       ·dsimp only at h ⊢;have h3:(get b a1).2.2=0/\¬4611686018427387904-last-1<(get b a1).1:=by split at h<;>omega
        rw[yW,nZ acc h3.1 h3.2,hx h3.1 h3.2]
       ·dsimp only at h ⊢;rw[yW]
        split
        ·rename_i h4;rw[uB h4.1 h4.2];rfl
        ·rename_i h4
         have h5:(get b a1).2.2≠0:=by intro h6;rw[if_neg h4]at h;exact h h6
         rw[rK h5];unfold andThen;rw[if_pos h5]
       ·dsimp only at h ⊢;have h3:(get b a1).2.2=0/\¬4611686018427387904-last-1<(get b a1).1:=by split at h<;>omega
        have:=uA h3.1;rw[hx h3.1 h3.2];simp only[bG,cz,jE];omega
       ·dsimp only
        first
        |(rw[if_pos ⟨oH,c9⟩];exact NL)
        |(rw[if_neg (λh=>c9 h.2)];exact NL)
        |(rw[if_neg (λh=>oH h.1)];exact NL)
      ·simp only;omega
    ·refine aj G G G G (aj G G G G (aj G G G G (aj G G G G (aj G G G G (az G G G (ad (iS G (aR (T.aP (ab G G ?_))))))))));refine ab G G (Rg.xF G G G (Rg.xF G G G (Rg.bg G G (aL (ab G G (ab G G ?_))))));refine fp (A:=RT.int .i64) (hn:=by decide) (M:=M1) av I3 q0 G G NK (gV (sf _)) (.inr ⟨G,G⟩) (λu w8 hu s8=>?_);refine dH (M:=M1) (base:=w4.heap.size) av I3 rfl rfl rfl rfl (yK.bM s8) hu cf a08 a08 (by have:=s8.size;omega) (λv9 M9 w9 ho9 s9=>?_);have z8:=s8.size;have z9:=s9.size;have jB:∀k,k<w4.heap.size->¬me u0 k:=λk hk h=>by have:=(ho.base k h).1;omega
     have NL:=s9.bR (s8.aB hE6) (jB be hV);have hA9:=s9.bR (s8.aB Ia) (jB ba hV);have hB9:=s9.bR (s8.aB Ib) (jB bb hV);have S9:=(S6.ax s8).dR s9 (yK.bM s8) hV;have hM9:=s9.lt (s8.lt NK);have NM:M9 be:=(s9.mem be hV).2 Wn;have NN:M9 ba:=(s9.mem ba hV).2 KP;refine Rg.bg G G (aL (ab G G (jw G G G hV (Rg.bg G G ?_))));refine⟨G,(many-1,(IntKind.i64.wrap (last+IntKind.i64.wrap ((get b a1).1+1))),v9,acc++[(IntKind.i64.wrap (last+IntKind.i64.wrap ((get b a1).1+1)))],(if(get b a1).2.2=0/\4611686018427387904-last-1<(get b a1).1 then 2 else(get b a1).2.2),(get b a1).2.1),a43,?_,?_⟩
     ·have hx:(get b a1).2.2=0->¬4611686018427387904-last-1<(get b a1).1->(IntKind.i64.wrap (last+IntKind.i64.wrap ((get b a1).1+1)))=last+1+(get b a1).1:=λh1 h2=>by rw[jL ((get b a1).1+1) hV,jL _ hV];omega
      have PU:many=(many-1)+1:=by omega
      have yW:=TA c6;rw[PU]at yW;refine⟨by simp only;omega,λh=>?_,λh=>?_,λh=>?_,by have:=eZ c6;simp only[bG,cz,jE];omega,M9,hM9,S9,by omega,NM,NN,ho9,?_,hA9,hB9⟩
      ·dsimp only at h ⊢;have h3:(get b a1).2.2=0/\¬4611686018427387904-last-1<(get b a1).1:=by split at h<;>omega
       rw[yW,nZ acc h3.1 h3.2,hx h3.1 h3.2]
      ·dsimp only at h ⊢;rw[yW]
       split
       ·rename_i h4;rw[uB h4.1 h4.2];rfl
       ·rename_i h4
        have h5:(get b a1).2.2≠0:=by intro h6;rw[if_neg h4]at h;exact h h6
        rw[rK h5];unfold andThen;rw[if_pos h5]
      ·dsimp only at h ⊢;have h3:(get b a1).2.2=0/\¬4611686018427387904-last-1<(get b a1).1:=by split at h<;>omega
       have:=uA h3.1;rw[hx h3.1 h3.2];simp only[bG,cz,jE];omega
      ·dsimp only
       first
       |(rw[if_pos ⟨oH,c9⟩];exact NL)
       |(rw[if_neg (λh=>c9 h.2)];exact NL)
       |(rw[if_neg (λh=>oH h.1)];exact NL)
     ·simp only;omega
   ·refine cQ (aN (T.aP (aG vK G G G Ub G (eW G G G (ad ?_)))));refine bF G (λJz=>?_) (λJz=>?_)
    ·refine aN ?_;apply um mixed rfl rfl;intro Wg NB;have qJ:=NB M1;refine aG vK G G G (by first|assumption|exact bY qJ Ub) G (Rg.dm (aF G G (Rg.dm (aF G G (Rg.dm (aF G G (Rg.dm (gm (aJ ?_)))))))));have hr:=Yg Jz;exact qO rfl rfl rfl rfl ⟨_,by rw[hr]<;>rfl,by rw[hr];exact ij,(S.ax qJ).back⟩
    ·refine aR (aN ?_);apply um mixed rfl rfl;intro Wo NO;have pw:=NO M1;refine ab G G (Rg.dm (aG ak G G G (by first|assumption|exact bY pw Ub) G (Rg.dm (aF G G (Rg.dm (aF G G (Rg.dm (aF G G (Rg.dm (gm (aJ ?_)))))))))));have hz:many=0:=by omega
     have hr:=TA hV;rw[hz,xU]at hr;simp only[andThen,ne_eq,not_true_eq_false,if_false,fz]at hr;have S15:=S.ax pw;refine qO rfl rfl rfl rfl ⟨_,by rw[hr]<;>rfl,?_,S15.back⟩;rw[hr];exact xd hM S15 ((ho.bM pw).iJ hV) ai4
  ·refine aj G G G G (aj G G G G (az G G G (ad (iS G (cQ (aN (T.aP (aG vK G G G Ub G (eW G G G (ad ?_))))))))));refine bF G (λJz=>?_) (λJz=>?_)
   ·refine aN ?_;apply um mixed rfl rfl;intro Wg NB;have qJ:=NB M1;refine aG vK G G G (by first|assumption|exact bY qJ Ub) G (Rg.dm (aF G G (Rg.dm (aF G G (Rg.dm (aF G G (Rg.dm (gm (aJ ?_)))))))));have hr:=Yg Jz;exact qO rfl rfl rfl rfl ⟨_,by rw[hr]<;>rfl,by rw[hr];exact ij,(S.ax qJ).back⟩
   ·refine aR (aN ?_);apply um mixed rfl rfl;intro Wo NO;have pw:=NO M1;refine ab G G (Rg.dm (aG ak G G G (by first|assumption|exact bY pw Ub) G (Rg.dm (aF G G (Rg.dm (aF G G (Rg.dm (aF G G (Rg.dm (gm (aJ ?_)))))))))));have hz:many=0:=by omega
    have hr:=TA hV;rw[hz,xU]at hr;simp only[andThen,ne_eq,not_true_eq_false,if_false,fz]at hr;have S15:=S.ax pw;refine qO rfl rfl rfl rfl ⟨_,by rw[hr]<;>rfl,?_,S15.back⟩;rw[hr];exact xd hM S15 ((ho.bM pw).iJ hV) ai4
theorem Ic {M:aH} {w0:World} {v:Value} {x:Li} (hv:cR RT.li M w0 v x) {k:Int}:
  Spec Tryz.prog 272 #[v,.int .i64 k] w0 (λv' w'=>v'= .bool (Lv x.2.1.length k)/\w0=w'):=by
 refine a8 (args:=[_,_]) (fn:=Tryz.f272) Tryz.func272 G (n:=16) Tryz.ntmps272 (T.aP (Rg.bg G G (T.aP (ab G G (ed G G G (ab G G ?_))))));refine aO (g:=7) G (λir=>?_) (λir=>?_)
 ·refine ah G G (ab G G (ah G G (ab G G (ah G G (aW G (cR.kR Ub) G (ah G G ?_))))));refine ar (M:=M) (A:=RT.li) (B:=(RT.bl).sl) eg G G FO q0 (li1) G G q0 Ub (by repeat (first|exact bI _ _|refine aX (bJ Ub) ?_)) (λaqM amu=>?_);refine ah G G ?_;refine bP (M:=M) fc G G G G G Ub (by repeat (first|exact bI _ _|refine aX (bJ Ub) ?_)) (λaa0 NP=>?_);refine ah G G ?_
  first|refine bN fc rfl Ub rfl ?_|refine iQ fc rfl Ub rfl ?_
  refine ah G G (cy G G G (aU G G G (Rg.bg G G (aJ ?_))))
  first
  |exact a62
  |exact a61
 ·refine aj G G G G (aj G G G G (aj G G G G (aj G G G G (aj G G G G (aj G G G G (aj G G G G (az G G G (Rg.bg G G (aJ ?_)))))))))
  first
  |exact a62
  |exact a61
theorem mI {M:aH} {w0:World} {v:Value} {x:Li} (hv:cR RT.li M w0 v x):
  Spec Tryz.prog 221 #[v] w0 (λv' w'=>v'= .int .i64 x.2.1.length/\w0=w'):=by
 refine a8 (args:=[_]) (fn:=Tryz.f221) Tryz.func221 G (n:=8) Tryz.ntmps221 (T.aP (Rg.bg G G (T.aP (ab G G (aW G (cR.kR Ub) G ?_)))));refine ar (M:=M) (A:=RT.li) (B:=(RT.bl).sl) eg G G FO q0 (li1) G G q0 Ub (by repeat (first|exact bI _ _|refine aX (bJ Ub) ?_)) (λVZ Ea=>?_);refine bP (M:=M) fc G G G G G Ub (by repeat (first|exact bI _ _|refine aX (bJ Ub) ?_)) (λV0 H7=>?_)
 first|refine bN fc rfl Ub rfl ?_|refine iQ fc rfl Ub rfl ?_
 refine Rg.bg G G (aJ ?_);exact ai8
theorem JT {M:aH} {w0:World} {v:Value} {x:Li} (hv:cR RT.li M w0 v x) {k:Int}:
  Spec Tryz.prog 222 #[v,.int .i64 k] w0 (λv' w'=>v'= .int .i64 (C7 x.2.1 k)/\w0=w'):=by
 refine a8 (args:=[_,_]) (fn:=Tryz.f222) Tryz.func222 G (n:=17) Tryz.ntmps222 (T.aP (Rg.bg G G (aN (T.aP (ab G G (ab G G ?_))))));refine aQ G G Zs (Ic hv (k:=k)) (λr w1 h1=>?_);obtain⟨rfl,rfl⟩:=h1;refine iv G G (bh (v':= .bool (decide (¬(0<=k/\k<x.2.1.length)))) (by unfold Lv;rw[decide_not]) (ad ?_));refine bF G (λc1=>?_) (λc1=>?_)
 ·refine T.aP (Rg.bg G G (aJ ?_));exact aM G G ⟨by unfold C7 Lv;rw[if_neg (by simpa using c1)],rfl⟩
 ·refine aR (T.aP (ab G G (aW G (cR.kR Ub) G ?_)));refine ar (M:=M) (A:=RT.li) (B:=(RT.bl).sl) eg G G FO q0 (li1) G G q0 Ub (by repeat (first|exact bI _ _|refine aX (bJ Ub) ?_)) (λQ3 yJ=>?_);refine bP (M:=M) fc G G G G G Ub (by repeat (first|exact bI _ _|refine aX (bJ Ub) ?_)) (λaa1 TB=>?_);refine ab G G ?_;obtain⟨b,hb⟩:∃b,x.2.1[k.toNat]? =some b:=⟨_,an hV⟩;refine cD fc Ab G G G Ub cf hV (λWp Wq NQ NR=>?_);obtain rfl:Wq=b:=aK (NQ.symm.trans hb);refine ar (M:=M) (A:=RT.bl) (B:=RT.int .i64) lr G G I3 q0 (bl2) G G q0 Ub (by repeat (first|exact bI _ _|refine aX (bJ Ub) ?_)) (λaqN amv=>?_);refine b4 (M:=M) ak G G Ub (by repeat (first|exact bI _ _|refine aX (bJ Ub) ?_)) (λamw=>?_);refine Rg.bg G G (aJ ?_);exact aM G G ⟨by unfold C7 Lv;rw[if_pos (by simpa using c1),cu,hb];rfl,rfl⟩
theorem GB {M:aH} {w0:World} {v:Value} {b:List UInt8} {at_ ahead:Int} (hM:Lt M w0) (hv:(RT.u8.sl).V M w0 b v) (Fu: -9223372036854775808<=at_/\at_<=9223372036854775807) (hah: -9223372036854775808<=ahead/\ahead<=9223372036854775807) (sy:b.length<=1099511627776):
  Spec Tryz.prog 273 #[v,.int .i64 at_,.int .i64 ahead] w0 (λv' w'=>∃p,v'= .tuple #[p,.int .i64 (qT b at_ ahead).2.1,.int .i64 (qT b at_ ahead).2.2]/\RT.po.V M w' (qT b at_ ahead).1 p/\Step M w0 M w' aE):=by
 refine a8 (args:=[_,_,_]) (fn:=Tryz.f273) Tryz.func273 G (n:=38) Tryz.ntmps273 (T.aP ?_);refine ec M iM G (λb0 w1 yi aqO hB s1=>?_);have oG:=s1.lt hM;have qH:=hv.le s1.le;refine aF G G (Rg.bg G G (T.aP (ab G G (ab G G ?_))));refine aQ G G Zt (Eo qH Fu) (λr w2 h2=>?_);obtain⟨rfl,rfl⟩:=h2;have xK:=AK b at_;obtain⟨hn0,hn1,hn2,hn3⟩:=n0 b at_;refine ab G G (cq G G G (cq G G G (cq G G G (aF G G (aF G G (Rg.bg G G (aN (T.aP (ab G G ?_)))))))));refine eW G G G (ad ?_);refine bF G (λc2=>?_) (λc2=>?_)
 ·refine T.aP (dg (places:=[(0,1),(1,1)]) b9 iM QM G G (out:=[.int .i64 0,.slice none 0 0]) G (ab G G ?_));refine cM (M:=ins M b0) iM G G (by intro u hu;simp at hu;rcases hu with rfl|rfl<;>rfl) rfl rfl hB (.inl rfl) (λw3 hB3 s3=>?_);refine aF G G (Rg.bg G G (aJ ?_));have mg:=s1.size;have S:Step M w0 M w3 aE:=(s1.ch s3 (λk hk=>by subst hk;omega)).back;refine Ls G G b9 G iM G hB3 G G ⟨_,by unfold qT;rw[if_pos c2]<;>rfl,?_,S⟩;unfold qT;rw[if_pos c2];exact fw (gV (x:=0) hV) ij G G G G
 ·refine aR (T.aP (ab G G (ab G G ?_)));have eZ:=uA (b:=b) (at_:=at_) hV;refine aQ G G afV (yV (M:=ins M b0) oG qH hV sy) (λr w3 h3=>?_);obtain⟨x3,rfl,hx3,s3⟩:=h3;refine ab G G (cq G G G (cq G G G (cq G G G (aF G G (aF G G (Rg.bg G G (T.aP (ab G G (Rg.xF G G G ?_)))))))));refine ab rfl rfl (Rg.xF rfl rfl rfl (ab rfl rfl (dg (places:=[(0,1),(1,1)]) b9 iM QM rfl ⟨_,_,rfl,rfl,_,_,rfl,rfl,rfl⟩ (out:=[_,_]) ⟨0,[_],rfl,rfl,by simp[Value.cells],1,[_],rfl,iO hx3,by simp[Value.cells],rfl⟩ (ab rfl rfl (ab rfl rfl ?_)))));obtain⟨vx,yz⟩:∃vx,vx=x3:=⟨_,rfl⟩;have pJ:=jl hx3 rfl rfl;refine cM (M:=ins M b0) iM G G (by intro u hu;simp at hu;rcases hu with rfl|rfl;rfl;exact pJ) G G (s3.aB hB) (.inl G) (λw4 hB4 s4=>?_);refine aF G G (Rg.bg G G (aJ ?_));have mg:=s1.size;have aqP:=s3.size;have S3:=s1.ax s3;have S:Step M w0 M w4 aE:=(S3.ch s4 (λk hk=>by subst hk;omega)).back;refine Ls G G b9 G iM G hB4 G G ⟨_,by unfold qT;rw[if_neg c2]<;>rfl,?_,S⟩;unfold qT;rw[if_neg c2];have hx4:=(hx3.le s4.le).le (nT hM (S3.ch s4 (λk hk=>by subst hk;omega)));exact fw (gV C5) hx4 G G G G
theorem GC {M:aH} {w0:World} {v:Value} {l:List Po} {k:Int} (hM:Lt M w0) (hv:cR RT.li M w0 v (kG l)) (tD:ez (-1) l=true) (rB:∀p∈l,p.2.length<=1099511627776) (sy:(ei (-1) l).length<=1099511627776):
  Spec Tryz.prog 223 #[v,.int .i64 k] w0 (λv' w'=>Step M w0 M w' aE/\((RT.po).sl).V M w' (if Lv ((l.length+7)/8) k then(l.drop (8*k.toNat)).take 8 else[]) v'):=by
 have Ru:(kG l).2.1.length=(l.length+7)/8:=by simp[kG,o9]
 refine a8 (args:=[_,_]) (fn:=Tryz.f223) Tryz.func223 G (n:=51) Tryz.ntmps223 (T.aP (Rg.bg G G (aN (T.aP (ab G G (ab G G ?_))))));refine aQ G G Zs (Ic hv (k:=k)) (λr w1 h1=>?_);obtain⟨rfl,rfl⟩:=h1;refine iv G G (bh (v':= .bool (decide (¬(0<=k/\k<(kG l).2.1.length)))) (by unfold Lv;rw[decide_not]) (ad ?_));refine bF G (λc1=>?_) (λc1=>?_)
 ·refine T.aP (Rg.bg G G (aJ (aM G G ⟨aV,?_⟩)));rw[if_neg (by unfold Lv;rw[Ru]at c1;simpa using c1)];exact ij
 ·refine aR (T.aP (ab G G (aW G (cR.kR Ub) G ?_)));refine ar (M:=M) (A:=RT.li) (B:=(RT.bl).sl) eg G G FO q0 (li1) G G q0 Ub (by repeat (first|exact bI _ _|refine aX (bJ Ub) ?_)) (λQ3 yJ=>?_);refine bP (M:=M) fc G G G G G Ub (by repeat (first|exact bI _ _|refine aX (bJ Ub) ?_)) (λaa1 TB=>?_);refine ab G G ?_;obtain⟨j,rfl⟩:∃j:Nat,k=j:=⟨k.toNat,by omega⟩;have hb:(kG l).2.1[j]? =some (tb l j):=by simp only[kG,o9,eN];rw[List.getElem?_range hV];rfl
  refine cD fc Ab G G G Ub cf hV (λWp Wq NQ NR=>?_);obtain rfl:Wq=tb l j:=aK (NQ.symm.trans (by simpa using hb));have Tr:(tb l j).2.2.2=(((l.drop (8*j)).take 8).length:Int):=rfl;have amx:((l.drop (8*j)).take 8).length<=8:=by rw[a7];omega
  refine cv (M:=M) (A:=RT.bl) lr G Ab q0 G G G Ub (by repeat (first|exact bI _ _|refine aX (bJ Ub) ?_)) (λRv wg=>?_);refine oQ (A:=RT.bl) (M:=M) Ab G G G G G Ub (by repeat (first|exact bI _ _|refine aX (bJ Ub) ?_)) a56 (λahV Wr amy Ws aqR=>?_);refine ad (T.aP (Rg.bg G G (aN (aN ?_))));apply T.draw (M:=M) mixed [cj.ptr (RT.int .i64) (tb l j).1,cj.eq _,cj.ptr (RT.int .i64) (tb l j).2.1,cj.eq _,cj.eq _,cj.eq _]
  ·rfl
  ·refine aI ?_ ?_
   ·intro wD E sD;refine ar (M:=M) (A:=RT.bl) (B:=RT.int .i64) lr G G I3 q0 (bl0) G G q0 Ub (by repeat (first|exact bI _ _|refine aX (bJ Ub) ?_)) (λaaS H9=>?_);exact ad ⟨G,G,_,G,by assumption,aV⟩
   refine aI ?_ ?_
   ·intro wD E sD;intro v0 qC;refine b4 (M:=M) ak G G Ub (by repeat (first|exact bI _ _|refine aX (bJ Ub) ?_)) (λTC=>?_);exact a00
   refine aI ?_ ?_
   ·intro wD E sD;refine ar (M:=M) (A:=RT.bl) (B:=RT.int .i64) lr G G I3 q0 (bl1) G G q0 Ub (by repeat (first|exact bI _ _|refine aX (bJ Ub) ?_)) (λaa4 tF=>?_);exact ad ⟨G,G,_,G,by assumption,aV⟩
   refine aI ?_ ?_
   ·intro wD E sD;intro v2 CO;refine b4 (M:=M) ak G G Ub (by repeat (first|exact bI _ _|refine aX (bJ Ub) ?_)) (λNS=>?_);exact a00
   refine aI ?_ ?_
   ·intro wD E sD;refine aq ?_;intro v0 qC;refine aq (aF G G ?_);exact a00
   refine aI ?_ ?_
   ·intro wD E sD;refine aq (aq ?_);intro v0 qC;refine aq ?_;intro v2 CO;refine aq (aq (aF G G ?_));exact a00
   exact zV
  ·intro wD5 Rq;intro aqS amz;refine aq ?_;intro agC Td;refine aq (aq (aq (aY ?_)));have hz5:=Ws.size;refine dz (σ:=Nat×Value) (λs=>[(0,v),(5,ahV),(6,s.2),(7,.int .i64 (ei (-1) (l.take (8*j+s.1))).length),(8,.int .i64 (cI (-1) (l.take (8*j+s.1))))]) (λs w=>s.1<=((l.drop (8*j)).take 8).length/\∃M1,Lt M1 w/\Step M w0 M1 w aE/\Step M Wr M1 w aE/\Own RT.po 188 M1 w Wr.heap.size s.2 (((l.drop (8*j)).take 8).take s.1)) (λs=>((l.drop (8*j)).take 8).length-s.1) (0,_) a65 ?_ ?_
   ·exact⟨bm _,M,Rq.lt (Ws.lt hM),Ws.ax Rq,Rq,eG _ _ _ _ _⟩
   ·rintro⟨i,u0⟩ w1 ⟨hi,M1,oG,S,S5,ho⟩;dsimp only at hi ho ⊢;refine aN (T.aP (ab G G (iQ bu G ho G (bh (v':= .int .i64 i) (by rw[a7,xA hi]) ?_))));refine ar (M:=M1) (A:=RT.bl) (B:=RT.int .i64) lr G G I3 q0 (bl3) G G q0 Ub (by repeat (first|exact bI _ _|refine aX (bJ Ub) ?_)) (λZS aa6=>?_);refine b4 ak G G aa6 cf (λamB=>?_);refine bh (v':= .int .i64 ((l.drop (8*j)).take 8).length) G (cy G G G (ad ?_));refine bF G (λc6=>?_) (λc6=>?_)
    ·refine aR (aY (T.aP (ab G G (aW G (cR.kR Ub) G ?_))));refine ar (M:=M1) (A:=RT.li) (B:=RT.u8.sl) eg G G Dp q0 (li0) G G q0 Ub (by repeat (first|exact bI _ _|refine aX (bJ Ub) ?_)) (λahf A7=>?_);refine bP (M:=M1) bT G G G G G Ub (by repeat (first|exact bI _ _|refine aX (bJ Ub) ?_)) (λaqT aa7=>?_);refine ab G G (ab G G ?_);obtain⟨⟨d,ps⟩,hx⟩:∃x,l[8*j+i]? =some x:=⟨_,an (by rw[a7,cN]at c6;omega)⟩;obtain⟨f1,f2,f3,f4,f5,f6⟩:=pO tD hx;have Z4:qT (kG l).1 _ _=_:=Lw tD hx (rB _ (ao hx));have IX:(ei (-1) (l.take (8*j+i))).length<=(ei (-1) l).length:=by rw[pP (l:=l) (i:=8*j+i) (-1)];simp
     refine aQ G G afR (GB (M:=M1) oG aa7 hV hV sy) (λr7 w7 h7=>?_);obtain⟨p7,h7e,Yt,s7⟩:=h7;rw[Z4]at h7e Yt;subst h7e;change RT.po.V M1 w7 (d,ps) p7 at Yt;replace S:=S.ax s7;replace S5:=S5.ax s7;replace ho:=ho.bM s7;replace oG:=s7.lt oG;have hci:((l.drop (8*j)).take 8)[i]? =some (d,ps):=by rw[dI,if_pos hV,gY];exact hx
     refine ab G G (cq G G G (cq G G G (cq G G G ?_)));refine oQ (A:=RT.po) (M:=M1) iM G G G G G Ub (by repeat (first|exact bI _ _|refine aX (bJ Ub) ?_)) a56 (λamD amE NT Ie amF=>?_);refine aF G G (Rg.bg G G (T.aP (ab G G ?_)));replace S:=S.ax Ie;replace S5:=S5.ax Ie;replace ho:=ho.bM Ie;replace oG:=Ie.lt oG;clear Yt;refine cv (A:=RT.po) b9 G iM q0 G G G NT cf (λv8 CP=>?_);refine fp (A:=RT.po) (hn:=by decide) (M:=M1) bu iM q0 G G oG CP (.inl G) (λu2 w2 eS s2=>?_);refine dH (M:=M1) (base:=Wr.heap.size) bu iM rfl rfl rfl rfl (ho.bM s2) eS cf a08 a08 (du S5.size s2.size) (λv3 M3 w3 P2 s3=>?_);replace S:=(S.ax s2).dR s3 (ho.bM s2) hz5;have hu9:=(NT.le q0 s2.le).le q0 s3.le;have NU:=s3.lt (s2.lt oG);replace S5:=(S5.ax s2).dR s3 (ho.bM s2) (br _);refine Rg.bg G G ?_;apply T.draw (M:=M3) mixed [cj.eq _,cj.ptr (RT.int .i64) d,cj.eq _,cj.eq _,cj.eq _]
     ·rfl
     ·refine aI ?_ ?_
      ·intro wD E sD;refine ab G G ?_;exact a00
      refine aI ?_ ?_
      ·intro wD E sD;refine ar (M:=M3) (A:=RT.po) (B:=RT.int .i64) b9 G G I3 q0 (PX) G G q0 hu9 sD.le (λahl Nw=>?_);exact ad ⟨G,G,_,G,Nw,aV⟩
      refine aI ?_ ?_
      ·intro wD E sD;intro v1 qH;refine b4 (M:=M3) ak G G Ub (by repeat (first|exact bI _ _|refine aX (bJ Ub) ?_)) (λamG=>?_);exact a00
      refine aI ?_ ?_
      ·intro wD E sD;refine aq (aq (aF G G ?_));exact a00
      refine aI ?_ ?_
      ·intro wD E sD;refine aq (aq (aq ?_));intro v1 qH;refine aq (aq (aF G G ?_));exact a00
      exact zV
     ·intro Yu Ig;refine aq ?_;intro aqV amH;refine aq (aq (aq ?_));refine⟨rfl,(i+1,v3),(.cons rfl (.cons rfl (.cons rfl (.cons rfl (.cons (by rw[<-f5];rfl) .nil))))),?_,?_⟩
      ·refine ⟨by simp only;omega,M3,Ig.lt NU,S.ax Ig,S5.ax Ig,?_⟩;simp only;obtain⟨hc1,P0⟩:=al.1 hci;rw[gC hc1,P0];exact P2.bM Ig
      ·simp only;omega
    ·refine cQ (T.aP (ab G G (Rg.bg G G (aJ (aM G G ⟨S.back,?_⟩)))));rw[if_pos (by unfold Lv;rw[Ru]at c1;simpa using c1),aw];rw[bD hV]at ho;exact xd hM S (ho.iJ hz5) hV
theorem Er {M:aH} {w0:World} {v:Value} {l:List Int} (hv:((RT.int .i64).sl).V M w0 l v):
  Spec Tryz.prog 264 #[v] w0 (λv' w'=>v'= .bool (n4 l)/\w0=w'):=by
 have hlen:=dQ hv;refine a8 (args:=[_]) (fn:=Tryz.f264) Tryz.func264 G (n:=32) Tryz.ntmps264 (T.aP (Rg.bg G G (aN (T.aP (ab G G ?_)))))
 first|refine bN av rfl Ub rfl ?_|refine iQ av rfl Ub rfl ?_
 refine ab G G (ad (aY ?_));refine dz (σ:=Nat×Int) (λs=>[(0,v),(5,v),(6,.int .i64 l.length),(7,.int .i64 s.1)]) (λs w=>w0=w/\s.1<=l.length/\n4 l=(fT s.2 (l.drop s.1)&&(l.drop s.1).all (λn=>decide (n<2147483648)))/\ -1<=s.2/\(s.1=0->s.2= -1)/\(0<s.1->l[s.1-1]? =some s.2)) (λs=>l.length-s.1) (0,-1) Uc ?_ ?_
 ·exact⟨rfl,bm _,rfl,by decide,λ_=>rfl,λh=>absurd h (jR 0)⟩
 ·rintro⟨k,last⟩ w1 ⟨rfl,hk,hr,Rr,h0,h1⟩;dsimp only at hk hr Rr h0 h1 ⊢;refine T.aP (cy G G G (ad (aN ?_)));refine bF G (λc2=>?_) (λc2=>?_)
  ·refine aR (aN (aY (T.aP (ab G G ?_))));obtain⟨x,hx⟩:∃x,l[k]? =some x:=⟨_,an hV⟩;refine cD av I3 G G G hv cf hV (λaqW ahW aa8 amI=>?_);obtain rfl:x=ahW:=dJ (aK (aa8.symm.trans ad1));refine b4 (M:=M) ak G G Ub (by repeat (first|exact bI _ _|refine aX (bJ Ub) ?_)) (λamJ=>?_);refine aF G G (Rg.bg G G (T.aP (ab G G (cy G G G (ab G G ?_)))));refine aO (g:=14) G (λuY=>?_) (λuY=>?_)
   ·refine aj G G G G (aj G G G G (aU G G G (ab G G (aj G G G G (aj G G G G (aj G G G G (cC G G G (cC G G G (cC G G G (cC G G G (cC G G G ?_)))))))))));refine cC G G G (cC G G G (aj G G G G (aU G G G (ad (kJ G (T.aP (Rg.bg G G (aJ ?_))))))));refine aM G G ⟨congrArg Value.bool (dJ ?_),G⟩;rw[hr,gq hx,pQ _ hx];by_cases h7:last<x
    ·have h2: ¬x<2147483648:=by omega
     simp[h2]
    ·simp[h7]
   ·refine ah G G (ab G G (ah G G (ed G G G (az G G G (ab G G ?_)))));refine aO (g:=18) G (λahX=>?_) (λahX=>?_)
    ·refine aj G G G G (aj G G G G (aj G G G G (cC G G G (cC G G G (cC G G G (cC G G G (cC G G G (cC G G G (cC G G G (aj G G G G (aU G G G ?_)))))))))));refine ad (kJ G (T.aP (Rg.bg G G (aJ ?_))));refine aM G G ⟨congrArg Value.bool (dJ ?_),G⟩;rw[hr,gq hx,pQ _ hx];by_cases h7:last<x
     ·have h2: ¬x<2147483648:=by omega
      simp[h2]
     ·simp[h7]
    ·refine ah G G (ab G G (ah G G (fU G G G (ah G G (ab G G ?_)))));refine aO (g:=21) G (λahY=>?_) (λahY=>?_)
     ·refine ah G G (ab G G (ah G G (ab G G (ah G G (ab G G (ah G G (jw G G G hV (ah G G ?_))))))));refine cD av I3 G G G hv cf hV (λamK aa9 Wt ahZ=>?_);obtain rfl:last=aa9:=dJ (aK (Wt.symm.trans (by rw[show((k:Int)-1).toNat=k-1 from by omega];exact h1 hV)));refine ah G G ?_;refine b4 (M:=M) ak G G Ub (by repeat (first|exact bI _ _|refine aX (bJ Ub) ?_)) (λah0=>?_);refine ah G G (fQ G G G (ah G G (aU G G G (az G G G (ad ?_)))));refine bF G (λc4=>?_) (λc4=>?_)
      ·refine T.aP (Rg.bg G G (aJ ?_));refine aM G G ⟨congrArg Value.bool (dJ ?_),G⟩;rw[hr,gq hx,pQ _ hx];by_cases h7:last<x
       ·have h2: ¬x<2147483648:=by omega
        simp[h2]
       ·simp[h7]
      ·refine aR (aL (bB G G G hV (ab G G (ad ?_))));refine⟨G,(k+1,x),Uc,?_,?_⟩
       ·refine⟨rfl,by simp only;omega,?_,by simp only;omega,λh=>by simp at h,λ_=>by simpa using hx⟩;rw[hr,gq hx,pQ _ hx,decide_eq_true (show last<x by omega),decide_eq_true (show x<2147483648 by omega),dr,dr]
       ·simp only;omega
     ·refine aj G G G G (aj G G G G (aj G G G G (aj G G G G (aj G G G G (aj G G G G (aj G G G G (ah G G (az G G G (az G G G (ad (iS G ?_)))))))))));refine aR (aL (bB G G G hV (ab G G (ad ?_))));refine⟨G,(k+1,x),Uc,?_,?_⟩
      ·refine⟨rfl,by simp only;omega,?_,by simp only;omega,λh=>by simp at h,λ_=>by simpa using hx⟩;rw[hr,gq hx,pQ _ hx,decide_eq_true (show last<x by omega),decide_eq_true (show x<2147483648 by omega),dr,dr]
      ·simp only;omega
  ·refine cQ (T.aP (Rg.bg G G (aJ ?_)));refine aM G G ⟨congrArg Value.bool (dJ ?_),G⟩;rw[hr,eT hV];rfl
theorem JU {M:aH} {w0:World} {v:Value} {l:List Po} (hM:Lt M w0) (hv:((RT.po).sl).V M w0 l v):
  Spec Tryz.prog 192 #[v] w0 (λv' w'=>v'= .bool (ez (-1) l)/\Step M w0 M w' aE):=by
 have hlen:=dQ hv;refine a8 (args:=[_]) (fn:=Tryz.f192) Tryz.func192 G (n:=36) Tryz.ntmps192 (T.aP (Rg.bg G G (T.aP (Rg.bg G G (aN (T.aP ?_))))));refine ab G G ?_
 first|refine bN bu rfl Ub rfl ?_|refine iQ bu rfl Ub rfl ?_
 refine ab G G (ad (aY ?_));refine dz (σ:=Nat×Int) (λs=>[(6,v),(7,.int .i64 l.length),(8,.int .i64 s.1),(3,.int .i64 s.2)]) (λs w=>Step M w0 M w aE/\s.1<=l.length/\ez (-1) l=ez s.2 (l.drop s.1)) (λs=>l.length-s.1) (0,-1) Uc ?_ ?_
 ·exact⟨aV,bm _,G⟩
 ·rintro⟨k,last⟩ w1 ⟨S,hk,hr⟩;dsimp only at hk hr ⊢;have hMw:=S.lt hM;refine T.aP (cy G G G (ad (aN ?_)));refine bF G (λc3=>?_) (λc3=>?_)
  ·refine aR (aN (aY (T.aP ?_)));obtain⟨⟨d,ps⟩,hx⟩:∃x,l[k]? =some x:=⟨_,an hV⟩;refine cD bu iM G G G (hv.le S.le) cf hV (λJw GD yX qZ=>?_);obtain rfl:GD=(d,ps):=aK (yX.symm.trans ad1);refine cv (M:=M) (A:=RT.po) b9 G iM q0 G G G Ub (by repeat (first|exact bI _ _|refine aX (bJ Ub) ?_)) (λF4 nE=>?_);refine oQ (A:=RT.po) (M:=M) iM G G G G G Ub (by repeat (first|exact bI _ _|refine aX (bJ Ub) ?_)) a56 (λU8 U9 mE ou aaL=>?_);refine ad (aN (T.aP ?_));refine ar (M:=M) (A:=RT.po) (B:=RT.int .i64) b9 G G I3 q0 (PX) G G q0 Ub (by repeat (first|exact bI _ _|refine aX (bJ Ub) ?_)) (λaaS H9=>?_);refine b4 ak G G H9 cf (λTC=>?_);refine bh (v':= .int .i64 d) G ?_;simp only at TC;refine ab G G (fQ G G G (ab G G ?_));refine aO (g:=16) G (λah1=>?_) (λah1=>?_)
   ·refine aj G G G G (aj G G G G (aj G G G G (aU G G G (ab G G (aj G G G G (aj G G G G (aj G G G G (aj G G G G (aU G G G (ab G G (aj G G G G ?_)))))))))));refine aj G G G G (aj G G G G (aj G G G G (aU G G G (ad (kJ G (T.aP (Rg.bg G G (aJ ?_))))))));refine aM G G ⟨congrArg Value.bool (dJ ?_),S.ax ou⟩;rw[hr,lI hx]
    first
    |(rw[decide_eq_false (show¬last<d by omega)];simp;done)
    |(rw[decide_eq_false (show¬d<2147483648 by omega)];simp;done)
    |(rw[show ps=[]from cE.1 hV];simp;done)
    |(simp[c5];done)
   ·refine ah G G ?_;refine ar (M:=M) (A:=RT.po) (B:=RT.int .i64) b9 G G I3 q0 (PX) G G q0 Ub (by repeat (first|exact bI _ _|refine aX (bJ Ub) ?_)) (λaqX aba=>?_);refine ah G G ?_;refine b4 ak G G aba cf (λamL=>?_);refine bh (v':= .int .i64 d) G (ah G G (ed G G G (az G G G (ab G G ?_))));refine aO (g:=21) G (λah2=>?_) (λah2=>?_)
    ·refine aj G G G G (aj G G G G (aj G G G G (aj G G G G (aU G G G (ab G G (aj G G G G (aj G G G G (aj G G G G (aj G G G G (aU G G G (ad ?_)))))))))));refine kJ G (T.aP (Rg.bg G G (aJ ?_)));refine aM G G ⟨congrArg Value.bool (dJ ?_),S.ax ou⟩;rw[hr,lI hx]
     first
     |(rw[decide_eq_false (show¬last<d by omega)];simp;done)
     |(rw[decide_eq_false (show¬d<2147483648 by omega)];simp;done)
     |(rw[show ps=[]from cE.1 hV];simp;done)
     |(simp[c5];done)
    ·refine ah G G ?_;refine ar (M:=M) (A:=RT.po) (B:=(RT.int .i64).sl) b9 G G pb q0 (UM) G G q0 Ub (by repeat (first|exact bI _ _|refine aX (bJ Ub) ?_)) (λamM ah3=>?_);refine ah G G ?_;refine bP (M:=M) av G G G G G Ub (by repeat (first|exact bI _ _|refine aX (bJ Ub) ?_)) (λamN Wu=>?_);refine ah G G (bN av G Wu G (bh (v':= .int .i64 ps.length) G (ah G G (ic G G G (az G G G (ab G G ?_))))));refine aO (g:=27) G (λTD=>?_) (λTD=>?_)
     ·refine aj G G G G (aj G G G G (aj G G G G (aj G G G G (aU G G G (ad (kJ G (T.aP (Rg.bg G G (aJ ?_)))))))));refine aM G G ⟨congrArg Value.bool (dJ ?_),S.ax ou⟩;rw[hr,lI hx]
      first
      |(rw[decide_eq_false (show¬last<d by omega)];simp;done)
      |(rw[decide_eq_false (show¬d<2147483648 by omega)];simp;done)
      |(rw[show ps=[]from cE.1 hV];simp;done)
      |(simp[c5];done)
     ·refine ah G G ?_;refine ar (M:=M) (A:=RT.po) (B:=(RT.int .i64).sl) b9 G G pb q0 (UM) G G q0 Ub (by repeat (first|exact bI _ _|refine aX (bJ Ub) ?_)) (λamO ah4=>?_);refine ah G G ?_;refine bP (M:=M) av G G G G G Ub (by repeat (first|exact bI _ _|refine aX (bJ Ub) ?_)) (λamP Wv=>?_);refine ah G G ?_;refine aQ G G afP (Er Wv) (λr5 w5 h5=>?_);obtain⟨rfl,rfl⟩:=h5;refine ah G G (iv G G (bh (v':= .bool (decide (¬n4 ps=true))) (by simp) (az G G G (ad ?_))));refine bF G (λc5=>?_) (λc5=>?_)
      ·refine T.aP (Rg.bg G G (aJ ?_));refine aM G G ⟨congrArg Value.bool (dJ ?_),S.ax ou⟩;rw[hr,lI hx]
       first
       |(rw[decide_eq_false (show¬last<d by omega)];simp;done)
       |(rw[decide_eq_false (show¬d<2147483648 by omega)];simp;done)
       |(rw[show ps=[]from cE.1 hV];simp;done)
       |(simp[c5];done)
      ·refine aR (aL ?_);refine ar (M:=M) (A:=RT.po) (B:=RT.int .i64) b9 G G I3 q0 (PX) G G q0 Ub (by repeat (first|exact bI _ _|refine aX (bJ Ub) ?_)) (λZ6 HS=>?_);refine b4 ak G G HS cf (λamQ=>?_);refine bh (v':= .int .i64 d) G (Rg.bg G G (aL (bB G G G hV (ab G G (ad ?_)))));refine⟨G,(k+1,d),Uc,?_,?_⟩
       ·refine ⟨S.ax ou,by simp only;omega,?_⟩
        have fq:ps.isEmpty=false:=by cases ps with
         |nil=>simp at TD
         |cons a t=>rfl
        rw[hr,lI hx,decide_eq_true (show last<d by omega),decide_eq_true (show d<2147483648 by omega),fq,cr.1 c5];rfl
       ·simp only;omega
  ·refine cQ (T.aP (Rg.bg G G (aJ ?_)));refine aM G G ⟨congrArg Value.bool (dJ ?_),S⟩;rw[hr,eT hV];rfl
theorem GF {M:aH} {w0:World} {v:Value} {l:List Po} (hM:Lt M w0) (hv:((RT.po).sl).V M w0 l v):
  Spec Tryz.prog 193 #[v,.int .i64 8] w0 (λv' w'=>∃bs bn,v'= .func (.func 265) [].toArray [.pointer (some ⟨bs,0,none⟩),.pointer (some ⟨bn,0,none⟩)].toArray/\w'.heap[bs]? =some (.cells #[v] 117 (0,0))/\w'.heap[bn]? =some (.cells #[.int .i64 8] 3 (0,0))/\w0.heap.size<=bs/\w0.heap.size<=bn/\Step M w0 M w' aE):=by
 refine a8 (args:=[_,_]) (fn:=Tryz.f193) Tryz.func193 G (n:=9) Tryz.ntmps193 (T.aP ?_);refine o2 M G G (λbs w1 h1 Qu hS s1=>?_);rw[iO hv]at hS;refine o2 (ins M bs) G G (λbn w2 h2 Fl hN s2=>?_);have hS2:=s2.aB hS;have hz1:=s1.size;refine Rg.bg G G (aN (T.aP (aG ak G G G hN G (cy G G G (ad (T.IN G (q0) (aR (T.aP ?_))))))));refine jd (xs:=[]) (ys:=[.tmp 2,.tmp 3]) G G G (Rg.bg G G (aJ ?_));exact aM G G ⟨bs,bn,G,hS2,hN,h1,by omega,(s1.ax s2).back⟩
theorem Es {w0:World} {bs bn yl:Nat} {v:Value} {l:List Po} {M:aH} {wv:World} {J:Nat->World->Prop} {Jx:World->Prop} (hv:((RT.po).sl).V M wv l v) (kC:∀i w w',J i w->Step aE w aE w' aE->J i w') (Rw:∀i w,J i w->w.heap[bs]? =some (.cells #[v] 117 (0,0))/\w.heap[bn]? =some (.cells #[.int .i64 8] 3 (0,0))) (hy:∀(i:Nat) (w:World) (u:Value),J i w->i<l.length->((RT.po).sl).V M wv ((l.drop i).take 8) u->xR Tryz.prog yl [u].toArray w (λr w'=>∃b,r= .bool b/\(b=true->J (min (i+8) l.length) w')/\(b=false->Jx w'))) (h0:J 0 w0):
  Spec Tryz.prog 265 #[.func (.yield yl) #[] #[],.pointer (some ⟨bs,0,none⟩),.pointer (some ⟨bn,0,none⟩)] w0 (λ_ w'=>J l.length w'∨Jx w'):=by
 have hlen:=dQ hv;refine a8 (args:=[_,_,_]) (fn:=Tryz.f265) Tryz.func265 G (n:=31) Tryz.ntmps265 (T.aP (Rg.bg G G (aY ?_)));refine dz (σ:=Nat) (λs=>[(0,.func (.yield yl) #[] #[]),(1,.pointer (some ⟨bs,0,none⟩)),(2,.pointer (some ⟨bn,0,none⟩)),(4,.int .i64 s)]) (λs w=>J (min s l.length) w/\s<=l.length+8) (λs=>l.length+8-s) 0 Uc ?_ ?_
 ·exact⟨by rw[Nat.zero_min];exact h0,bm _⟩
 ·rintro k w1 ⟨hJ,hk⟩;obtain⟨uI,CR⟩:=Rw _ _ hJ;refine aN (T.aP (ab G G (aG bu G G G uI G ?_)))
  first|refine bN bu rfl Ub rfl ?_|refine iQ bu rfl Ub rfl ?_
  refine cy G G G (ad ?_);refine bF G (λc1=>?_) (λc1=>?_)
  ·refine aR (aN (aY (aN ?_)));apply T.draw (M:=aE) mixed [cj.eq _,cj.eq _,cj.eq _,cj.pure (λv=>((RT.po).sl).V M wv (l.drop k) v),cj.eq _,cj.eq _,cj.eq _]
   ·rfl
   ·refine aI ?_ ?_
    ·intro wD E sD;refine aG ak G G G (bY sD CR) G ?_;exact a00
    refine aI ?_ ?_
    ·intro wD E sD;refine aG bu G G G (bY sD uI) G ?_;exact a00
    refine aI ?_ ?_
    ·intro wD E sD;refine ab G G ?_;exact a00
    refine aI ?_ ?_
    ·intro wD E sD;refine aq (aq ?_);refine Rg.nV (A:=RT.po) (hn:=by decide) bu iM G G G hv hV (λu hu=>?_);rw[aw]at hu;exact ad ⟨G,G,_,G,hu,aV⟩
    refine aI ?_ ?_
    ·intro wD E sD;intro v3 uQ;have ah5:((RT.po).sl).V M wv (l.drop k) v3:=uQ;refine bN bu G ah5 G ?_;exact a00
    refine aI ?_ ?_
    ·intro wD E sD;refine aq (aq (Rg.min2 G G G ?_));exact a00
    refine aI ?_ ?_
    ·intro wD E sD;refine aq (aq (aq (aq ?_)));intro v3 uQ;refine aq (aq (aF G G ?_));exact a00
    exact zV
   ·intro ZL pf;refine aq (aq (aq ?_));intro aa1 TB;refine aq (aq (aq ?_));rw[show min k l.length=k from by omega]at hJ;have hJ3:=kC _ _ _ hJ pf;obtain⟨hb3,Rx⟩:=Rw _ _ hJ3;refine T.aP (ab G G (aG bu G G G hb3 G (ab G G (ab G G (ab G G (bB G G G hV (ab G G (ab G G (bB G G G hV ?_)))))))));refine Rg.I6 (A:=RT.po) (hn:=by decide) bu iM rfl rfl rfl rfl rfl hv (by rw[cN];omega) (λu hu=>?_)
    have he:(l.take ((k:Int)+min 8 ((l.drop k).length:Int)).toNat).drop (k:Int).toNat=(l.drop k).take 8:=by
     rw[aw,List.drop_take,cN,show((k:Int)+min 8 ((l.length-k:Nat):Int)).toNat-k=min 8 (l.length-k)from by omega,gX,cN];omega
    rw[he]at hu;refine Rg.yield G (vs:=[u]) G G (hy k _ u hJ3 hV hu) (λr4 w4 h4=>?_);obtain⟨b,rfl,hb5,qI⟩:=h4;refine iv G G (bh (v':= .bool (decide (¬b=true))) (by simp) (ad ?_));refine bF G (λc4=>?_) (λc4=>?_)
    ·refine aJ ?_;exact CQ G (.inr (qI (by simpa using c4)))
    ·refine aR (aL (ab G G ?_));have hJ5:=hb5 (cr.1 c4);refine aG ak G G G (Rw _ _ hJ5).2 G (bB G G G hV (Rg.bg G G ?_));refine⟨G,k+8,Uc,?_,?_⟩
     ·exact⟨hJ5,by omega⟩
     ·show l.length+8-(k+8)<l.length+8-k;omega
  ·refine cQ ?_;rw[show min k l.length=l.length from by omega]at hJ;change wI Tryz.prog Tryz.f265 (λ_ w'=>J l.length w'∨Jx w') .normal _ [] _;exact jW G (.inl hJ)
structure mP (M:aH) (w0:World) (v:Value) (bo bx bl D bs bn:Nat) (st:Obj) (vb vk:Value) (uC last:Int) (b:List UInt8) (ks:List Bl) (M1:aH) (w:World):Prop where
 lt:Lt M1 w
 S:Step M w0 M1 w aE
 mo:M1 bo
 mx:M1 bx
 ml:M1 bl
 md:M1 D
 mr:M1 (D+1)
 o:w.heap[bo]? =some (.cells #[.pointer (some ⟨bx,0,none⟩)] 250 (0,0))
 x:w.heap[bx]? =some (.cells #[vb,vk,.int .i64 uC] 296 (0,0))
 l:w.heap[bl]? =some (.cells #[.int .i64 last] 3 (0,0))
 d:w.heap[D]? =some (.deferred (some []))
 r:w.heap[D+1]? =some st
 s:w.heap[bs]? =some (.cells #[v] 117 (0,0))
 n:w.heap[bn]? =some (.cells #[.int .i64 8] 3 (0,0))
 ne:bo≠bx/\bo≠bl/\bx≠bl/\bo<D/\bx<D/\bl<D/\bs<D/\bn<D/\bs≠bo/\bs≠bx/\bs≠bl/\bn≠bo/\bn≠bx/\bn≠bl/\w0.heap.size<=bo/\w0.heap.size<=bx/\w0.heap.size<=bl/\w0.heap.size<=D
 hb:(RT.u8.sl).V M1 w b vb
 hk:Own RT.bl 301 M1 w (D+2) vk ks
section
variable {M M1 M2:aH} {w0 w w':World} {v vb vk:Value} {bo bx bl D bs bn:Nat} {st:Obj} {uC last:Int} {b:List UInt8} {ks:List Bl}
theorem mP.step (h:mP M w0 v bo bx bl D bs bn st vb vk uC last b ks M1 w) (s:Step M1 w M2 w' aE):mP M w0 v bo bx bl D bs bn st vb vk uC last b ks M2 w':=
 ⟨s.lt h.lt,h.S.ax s,(s.mem _ (h.lt _ h.mo)).2 h.mo,(s.mem _ (h.lt _ h.mx)).2 h.mx,(s.mem _ (h.lt _ h.ml)).2 h.ml,(s.mem _ (h.lt _ h.md)).2 h.md,(s.mem _ (h.lt _ h.mr)).2 h.mr,
  s.aB h.o,s.aB h.x,s.aB h.l,s.aB h.d,s.aB h.r,s.aB h.s,s.aB h.n,h.ne,h.hb.le s.le,h.hk.bM s⟩
theorem mP.Ry {n:Int} (h:mP M w0 v bo bx bl D bs bn st vb vk uC last b ks M1 w) (s:Step M1 w M1 w' (λk=>k=bl)) (hl:w'.heap[bl]? =some (.cells #[.int .i64 n] 3 (0,0))):mP M w0 v bo bx bl D bs bn st vb vk uC n b ks M1 w':=by
 obtain⟨e1,e2,e3,e4,e5,e6,e7,e8,e9,GG,JV,Ih,NV,e14,e15,Yv,e17,e18⟩:=h.ne
 exact⟨s.lt h.lt,h.S.ch s (λk hk=>by subst hk;exact e17),h.mo,h.mx,h.ml,h.md,h.mr,s.bR h.o e2,s.bR h.x e3,hl,s.bR h.d hV,s.bR h.r hV,s.bR h.s JV,s.bR h.n e14,h.ne,h.hb.le s.le,
  h.hk.step s (λk hk hh=>by have:=(h.hk.base k hk).1;omega)⟩
theorem mP.Ww {vb' Wx:Value} {abd:Int} {b':List UInt8} {US:List Bl} (h:mP M w0 v bo bx bl D bs bn st vb vk uC last b ks M1 w) (s:Step M1 w M1 w' (λk=>k=bx)) (hx:w'.heap[bx]? =some (.cells #[vb',Wx,.int .i64 abd] 296 (0,0)))
  (hb:(RT.u8.sl).V M1 w' b' vb') (hk:Own RT.bl 301 M1 w (D+2) Wx US):mP M w0 v bo bx bl D bs bn st vb' Wx abd last b' US M1 w':=by
 obtain⟨e1,e2,e3,e4,e5,e6,e7,e8,e9,GG,JV,Ih,NV,e14,e15,Yv,e17,e18⟩:=h.ne
 exact⟨s.lt h.lt,h.S.ch s (λk hk=>by subst hk;exact Yv),h.mo,h.mx,h.ml,h.md,h.mr,s.bR h.o e1,hx,s.bR h.l (Ne.symm e3),s.bR h.d hV,s.bR h.r hV,s.bR h.s GG,s.bR h.n NV,h.ne,hb,
  hk.step s (λk o8 hh=>by have:=(hk.base k o8).1;omega)⟩
theorem mP.pq {st':Obj} (h:mP M w0 v bo bx bl D bs bn st vb vk uC last b ks M1 w) (kC:w.heap[D+1]? =some st):mP M w0 v bo bx bl D bs bn st' vb vk uC last b ks M1 (w.putObj (D+1) st'):=by
 have s:Step M1 w M1 (w.putObj (D+1) st') (λk=>k=D+1):=fY h.mr;obtain⟨e1,e2,e3,e4,e5,e6,e7,e8,e9,GG,JV,Ih,NV,e14,e15,Yv,e17,e18⟩:=h.ne
 exact⟨s.lt h.lt,h.S.ch s (λk hk=>by subst hk;omega),h.mo,h.mx,h.ml,h.md,h.mr,s.bR h.o hV,s.bR h.x hV,s.bR h.l hV,s.bR h.d hV,World.putObj_heap_same (ae kC),s.bR h.s hV,s.bR h.n hV,h.ne,h.hb.le s.le,
  h.hk.step s (λk o8 hh=>by have:=(h.hk.base k o8).1;omega)⟩
theorem mP.other {q:Nat} (h:mP M w0 v bo bx bl D bs bn st vb vk uC last b ks M1 w) (s:Step M1 w M1 w' (λk=>k=q)) (hq:D+1<q) (hqv:∀k,vk.ownBlock=some k->k≠q):mP M w0 v bo bx bl D bs bn st vb vk uC last b ks M1 w':=by
 obtain⟨e1,e2,e3,e4,e5,e6,e7,e8,e9,GG,JV,Ih,NV,e14,e15,Yv,e17,e18⟩:=h.ne
 exact⟨s.lt h.lt,h.S.ch s (λk hk=>by subst hk;omega),h.mo,h.mx,h.ml,h.md,h.mr,s.bR h.o hV,s.bR h.x hV,s.bR h.l hV,s.bR h.d hV,s.bR h.r hV,s.bR h.s hV,s.bR h.n hV,h.ne,h.hb.le s.le,
  h.hk.step s (λk o8 hh=>hqv k o8 hh)⟩
theorem mP.grow {Wx:Value} {US:List Bl} (h:mP M w0 v bo bx bl D bs bn st vb vk uC last b ks M1 w) (s:Step M1 w M2 w' (λk=>vk.ownBlock=some k)) (hk:Own RT.bl 301 M2 w' (D+2) Wx US):
  (w'.heap[bx]? =some (.cells #[vb,vk,.int .i64 uC] 296 (0,0))/\M2 bx/\Lt M2 w')/\∀{w2:World},Step M2 w' M2 w2 (λk=>k=bx)->w2.heap[bx]? =some (.cells #[vb,Wx,.int .i64 uC] 296 (0,0))->mP M w0 v bo bx bl D bs bn st vb Wx uC last b US M2 w2:=by
 obtain⟨e1,e2,e3,e4,e5,e6,e7,e8,e9,GG,JV,Ih,NV,e14,e15,Yv,e17,e18⟩:=h.ne;have hn:∀k,vk.ownBlock=some k->D+2<=k:=λk hk=>(h.hk.base k hk).1
 have gJ:=λ{k:Nat} (hm:M1 k)=>(s.mem k (h.lt k hm)).2 hm
 refine ⟨⟨s.bR h.x (λhh=>by have:=hn _ hh;omega),gJ h.mx,s.lt h.lt⟩,λ{w2} s2 hx=> ?_⟩;have S':=h.S.ch s (λk hk=>by have:=hn k hk;omega)
 exact⟨s2.lt (s.lt h.lt),S'.ch s2 (λk hk=>by subst hk;exact Yv),gJ h.mo,gJ h.mx,gJ h.ml,gJ h.md,gJ h.mr,s2.bR (s.bR h.o (λhh=>by have:=hn _ hh;omega)) e1,hx,s2.bR (s.bR h.l (λhh=>by have:=hn _ hh;omega)) (Ne.symm e3),
  s2.bR (s.bR h.d (λhh=>by have:=hn _ hh;omega)) hV,s2.bR (s.bR h.r (λhh=>by have:=hn _ hh;omega)) hV,s2.bR (s.bR h.s (λhh=>by have:=hn _ hh;omega)) GG,s2.bR (s.bR h.n (λhh=>by have:=hn _ hh;omega)) NV,h.ne,(h.hb.le s.le).le s2.le,
  hk.step s2 (λk o8 hh=>by have:=(hk.base k o8).1;omega)⟩
end
def NW (M:aH) (w0:World) (l:List Po) (v:Value) (bo bx bl D bs bn:Nat) (st:Obj) (i:Nat) (w:World):Prop:=
 ∃(M1:aH) (vb vk:Value),mP M w0 v bo bx bl D bs bn st vb vk (iX (l.take i)) (cI (-1) (l.take i)) (ei (-1) (l.take i)) (o9 l ((i+7)/8)) M1 w/\(i%8=0\/i=l.length)/\i<=l.length
theorem Wy {M:aH} {w0 w2 w3 w5 w6 w7:World} {v:Value} {l:List Po} {bo bx bl bs bn:Nat} {st:Obj} (S6:Step M w0 (ins (ins (ins M bx) bo) bl) w6 aE) (s7:Step (ins (ins (ins M bx) bo) bl) w6 (ins (ins (ins M bx) bo) bl) w7 aE) (hM:Lt M w0)
  (e1:bo<w6.heap.size) (e2:bx<w6.heap.size) (e3:bl<w6.heap.size) (n1:bo≠bx) (n2:bo≠bl) (n3:bx≠bl)
  (hO:w6.heap[bo]? =some (.cells #[.pointer (some ⟨bx,0,none⟩)] 250 (0,0))) (hX:w6.heap[bx]? =some (.cells #[.slice none 0 0,.slice none 0 0,.int .i64 0] 296 (0,0))) (hL:w6.heap[bl]? =some (.cells #[.int .i64 (-1)] 3 (0,0)))
  (hS:w7.heap[bs]? =some (.cells #[v] 117 (0,0))) (hN:w7.heap[bn]? =some (.cells #[.int .i64 8] 3 (0,0))) (hbs:w6.heap.size<=bs) (Yc:w6.heap.size<=bn)
  (g1:w0.heap.size<=bo) (g2:w0.heap.size<=bx) (g3:w0.heap.size<=bl):
  NW M w0 l v bo bx bl w7.heap.size bs bn st 0 ((w7.alloc (.deferred (some []))).alloc st):=by
 have sA:Step (ins (ins (ins M bx) bo) bl) w7 (ins (ins (ins (ins M bx) bo) bl) w7.heap.size) (w7.alloc (.deferred (some []))) aE:=(dT _ w7 _).own (br _) (by simp);have sB:Step (ins (ins (ins (ins M bx) bo) bl) w7.heap.size) (w7.alloc (.deferred (some []))) (ins (ins (ins (ins (ins M bx) bo) bl) w7.heap.size) (w7.heap.size+1)) ((w7.alloc (.deferred (some []))).alloc st) aE:=(dT _ _ _).own (by simp) (by simp);have z7:=s7.size;have hs7:=ae hS;have hn7:=ae hN;have S:=((S6.ax s7).ax sA).ax sB;have hD:(w7.alloc (.deferred (some []))).heap[w7.heap.size]? =some (.deferred (some [])):=dp w7 _;have hR:((w7.alloc (.deferred (some []))).alloc st).heap[w7.heap.size+1]? =some st:=by have:=dp (w7.alloc (.deferred (some []))) st;rwa [World.size_alloc]at this
 have z0:=S6.size;refine⟨_,.slice none 0 0,.slice none 0 0,⟨S.lt hM,S,?_,?_,?_,?_,.inl rfl,sB.aB (sA.aB (s7.aB hO)),sB.aB (sA.aB (s7.aB hX)),sB.aB (sA.aB (s7.aB hL)),sB.aB hD,hR,sB.aB (sA.aB hS),sB.aB (sA.aB hN),by omega,ij,eG _ _ _ _ _⟩,.inl rfl,bm _⟩
 ·exact .inr (.inr (.inr (.inl G)))
 ·exact .inr (.inr (.inr (.inr (.inl G))))
 ·exact .inr (.inr (.inl G))
 ·exact .inr (.inl G)
set_option maxHeartbeats 4000000 in
theorem uZ {M:aH} {w0:World} {v:Value} {l:List Po} (hM:Lt M w0) (hv:((RT.po).sl).V M w0 l v) (rB:∀p∈l,p.2.length<=1099511627776) (sy:(ei (-1) l).length<=35184372088832) (PV:l.length<=1099511627776) (aqZ:iX l<=4611686018427387904):
  Spec Tryz.prog 155 #[v] w0 (λv' w'=>Step M w0 M w' aE/\(ez (-1) l=true->∃p,v'= .tuple #[p,.int .i64 0]/\cR RT.li M w' p (kG l))/\(ez (-1) l=false->v'= .tuple #[.pointer none,.int .i64 1])):=by
 have hlen:=dQ hv;refine sU (args:=[_]) (fn:=Tryz.f155) Tryz.func155 G (n:=85) Tryz.ntmps155 (T.aP (aF G G (Rg.bg G G (aN (T.aP (ab G G ?_))))));refine aQ G G afH (JU hM hv) (λr w1 h1=>?_);obtain⟨rfl,s1⟩:=h1;refine iv G G (bh (v':= .bool (decide (¬ez (-1) l=true))) (by simp) (ad ?_));refine bF G (λc1=>?_) (λc1=>?_)
 ·refine T.aP (aF G G (Rg.bg G G (aJ ?_)));exact Qt G G G ⟨s1,λh=>absurd h c1,λ_=>G⟩
 ·have tD:=cr.1 c1;refine aR (T.aP (dg (places:=[(0,1),(1,1),(2,1)]) eg afm afo G G (out:=[.slice none 0 0,.slice none 0 0,.int .i64 0]) G ?_));refine o2 M G G (λbx w2 Rw aq0 hX s2=>?_);change w2.heap[bx]? =some (.cells #[.slice none 0 0,.slice none 0 0,.int .i64 0] 296 (0,0))at hX;refine ec (ins M bx) rO G (λbo w3 hbo aq1 hO s3=>?_);refine cg (M:=ins (ins M bx) bo) rO G G hO G G (.inl G) (λw4 hO4 s4=>?_);refine ad (T.aP ?_);refine ec (ins (ins M bx) bo) I3 G (λbl w5 aq3 amW hL s5=>?_);refine cg (M:=ins (ins (ins M bx) bo) bl) I3 G G hL G G (.inl G) (λw6 hL6 s6=>?_);have z1:=s1.size;have z2:=s2.size;have z3:=s3.size;have z4:=s4.size;have z5:=s5.size;have z6:=s6.size;have S6:Step M w0 (ins (ins (ins M bx) bo) bl) w6 aE:=((((s1.ax s2).ax s3).ch s4 (λk hk=>by subst hk;omega)).ax s5).ch s6 (λk hk=>by subst hk;omega);have hO6:=s6.bR (s5.aB hO4) (show bo≠bl by omega);have GH:=s6.bR (s5.aB (s4.bR (s3.aB hX) (show bx≠bo by omega))) (show bx≠bl by omega);refine ad (aN (T.aP (ab G G ?_)));refine aQ G G afI (GF (M:=ins (ins (ins M bx) bo) bl) (S6.lt hM) (hv.le S6.le)) (λr w7 h7=>?_);obtain⟨bs,bn,rfl,hS7,hN7,hbs,Yc,s7⟩:=h7;have z7:=s7.size;have aq6:=ae hS7;have aq7:=ae hN7;refine ad (aY ?_);refine T.range (gf:=265) (lb:=[.pointer (some ⟨bs,0,none⟩),.pointer (some ⟨bn,0,none⟩)].toArray) G afQ (λrec sO=>?_);obtain⟨D,hD⟩:∃D,D=w7.heap.size:=⟨_,rfl⟩;rw[<-hD]at sO ⊢
  have h0:NW M w0 l v bo bx bl D bs bn (.loop (rec .ready none)) 0 ((w7.alloc (.deferred (some []))).alloc (.loop (rec .ready none))):=by
   rw[hD]at sO ⊢;exact Wy (w2:=w7) (w3:=w7) (w5:=w7) S6 s7 hM hV hV hV hV hV hV hO6 GH hL6 hS7 hN7 hbs Yc hV hV hV
  refine Spec.mono (Es (M:=M) (wv:=w0) (J:=NW M w0 l v bo bx bl D bs bn (.loop (rec .ready none))) (Jx:=λ_=>False) hv (λi w w' ⟨M1,vb,vk,h,h2⟩ s=>⟨M1,vb,vk,h.step (s.any M1),h2⟩) (λi w ⟨M1,vb,vk,h,h2⟩=>⟨h.s,h.n⟩) (λi wr u hJ hi hu=>?_) h0) (λ_ w3 h3=>?_)
  ·obtain⟨M1,vb,vk,h,hi8,qE⟩:=hJ;refine ql (ps:=[17]) (vs:=[u]) sO h.r G q0 (aL (Rg.bg G G (⟨G,h.r,?_⟩)));have h1:=h.pq (st':= .loop (rec .busy none)) h.r;generalize wr.putObj (D+1) _=wB at h1 ⊢;have hO:=h1.o;have hX:=h1.x;have hL:=h1.l;have hB:=h1.hb;have eK:=h1.lt;have rD:((l.drop i).take 8).length<=8:=by rw[a7];omega
   have aq8:((l.drop i).take 8).length=min 8 (l.length-i):=by rw[a7,cN]
   obtain⟨q1,q2,q3,q4,q5,q6,q7,q8,q9,q10,q11,q12,q13,q14,q15,q16,q17,q18⟩:=h1.ne;refine aY (aN ?_);apply T.HB (M:=M1) (n:=85) _ mixed [] [cj.eq _,cj.eq _,cj.eq _,cj.eq _,cj.eq _,cj.eq _,cj.eq _,cj.eq _,cj.eq _,cj.mk' (λp w'=>∃bq,p= .pointer (some ⟨bq,0,none⟩)/\wB.heap.size<=bq/\w'.heap[bq]? =some (.cells #[.int .i64 0,.int .i64 0,.int .i64 0,.int .i64 0] 301 (0,0))) (fun⟨bq,h1,h2,h3⟩ s=>⟨bq,h1,h2,s.aB h3⟩)]
   ·rfl
   ·rfl
   ·rfl
   ·rfl
   ·exact a86
   ·exact qA
   ·refine ay ?_ ?_
    ·intro wD E sD;refine aG dL G G G (bY sD Ub) G ?_;exact a00
    refine ay ?_ ?_
    ·intro wD E sD;refine aq (aW G ⟨_,G⟩ G ?_);exact a00
    refine ay ?_ ?_
    ·intro wD E sD;refine aq (aT eg G G Dp q0 G G ?_);exact a00
    refine ay ?_ ?_
    ·intro wD E sD;refine aq (aG bT G G G (bY sD Ub) G ?_);exact a00
    refine ay ?_ ?_
    ·intro wD E sD;refine aq ?_
     first|refine bN bT rfl Ub rfl ?_|refine iQ bT rfl Ub rfl ?_
     exact a00
    refine ay ?_ ?_
    ·intro wD E sD;refine aG ak G G G (bY sD Ub) G ?_;exact a00
    refine ay ?_ ?_
    ·intro wD E sD;refine ab G G ?_;exact a00
    refine ay ?_ ?_
    ·intro wD E sD;refine aq ?_
     first|refine bN bu rfl Ub rfl ?_|refine iQ bu rfl Ub rfl ?_
     exact a00
    refine ay ?_ ?_
    ·intro wD E sD;refine aq (aq (aq (dg (places:=[(0,1),(1,1),(2,1),(3,1)]) lr Ab afp rfl ⟨_,_,rfl,rfl,_,_,rfl,rfl,_,_,rfl,rfl,rfl⟩ (out:=[.int .i64 (ei (-1) (l.take i)).length,.int .i64 (cI (-1) (l.take i)),.int .i64 0,.int .i64 ((l.drop i).take 8).length]) ⟨0,[_],rfl,rfl,by simp[Value.cells],1,[_],rfl,rfl,by simp[Value.cells],3,[_],rfl,rfl,by simp[Value.cells],rfl⟩ ?_)));exact a00
    refine ay ?_ ?_
    ·intro wD E sD;refine ec M1 Ab G (λbq wq e1 e2 e3 s=>?_);exact ad ⟨G,G,_,G,⟨bq,G,du sD.size e1,e3⟩,s.back⟩
    exact jS
   ·intro wD7 sD7;refine aq (aq (aq (aq (aq (aq (aq (aq (aq ?_))))))));intro arn abe;obtain⟨bq,rfl,UD,hq2⟩:=abe;have SG:=ae hq2;have sQ:Step M1 wB (ins M1 bq) wD7 aE:=sD7.own UD SG;refine cM (M:=ins M1 bq) (vs:=[.int .i64 (ei (-1) (l.take i)).length,.int .i64 (cI (-1) (l.take i)),.int .i64 0,.int .i64 ((l.drop i).take 8).length]) Ab G G (by intro x hx;simp at hx;rcases hx with rfl|rfl|rfl|rfl<;>rfl) rfl rfl hq2 (.inl rfl) (λwQ hQ sQ2=>?_);refine ad ⟨G,?_⟩;have h2:=h1.step (sQ.ch sQ2 (λk hk=>by subst hk;exact UD));have hqv:∀k,vk.ownBlock=some k->k≠bq:=λk hk=>by have:=(h1.hk.base k hk).2;omega
    have hDq:D+1<bq:=by have:=ae h1.r;omega
    have h3:mP M w0 v bo bx bl D bs bn (.loop (rec .busy none)) vb vk (iX (l.take (i+0))) (cI (-1) (l.take (i+0))) (ei (-1) (l.take (i+0))) (o9 l ((i+7)/8)) (ins M1 bq) wQ:=h2;obtain⟨M2,HM⟩:∃M2,M2=ins M1 bq:=⟨_,rfl⟩;rw[<-HM]at h3;refine aN (T.aP (ab G G ?_))
    first|refine bN bu rfl Ub rfl ?_|refine iQ bu rfl Ub rfl ?_
    refine ab G G (ad (aY ?_));refine dz (σ:=Nat×Value) (λs=>[(4,.pointer (some ⟨bo,0,none⟩)),(5,.pointer (some ⟨bl,0,none⟩)),(6,u),(7,.pointer (some ⟨bq,0,none⟩)),(27,u),(28,.int .i64 ((l.drop i).take 8).length),(29,.int .i64 s.1)]) (λs w=>s.1<=((l.drop i).take 8).length/\w.heap[bq]? =some (.cells #[.int .i64 (ei (-1) (l.take i)).length,.int .i64 (cI (-1) (l.take i)),.int .i64 0,.int .i64 ((l.drop i).take 8).length] 301 (0,0))/\mP M w0 v bo bx bl D bs bn (.loop (rec .busy none)) s.2 vk (iX (l.take (i+s.1))) (cI (-1) (l.take (i+s.1))) (ei (-1) (l.take (i+s.1))) (o9 l ((i+7)/8)) M2 w) (λs=>((l.drop i).take 8).length-s.1) (0,vb) a88 ?_ ?_
    ·exact⟨bm _,hQ,h3⟩
    ·rintro⟨j,vb⟩ wj ⟨hj,hQ,h4⟩;dsimp only at hj hQ h4 ⊢;have eK:=h4.lt;refine T.aP (cy G G G (ad (aN ?_)));refine bF G (λc9=>?_) (λc9=>?_)
     ·refine aR (aN (aY (T.aP ?_)));obtain⟨⟨d,ps⟩,hx⟩:∃x,l[i+j]? =some x:=⟨_,an hV⟩;obtain⟨f1,f2,f3,f4,f5,f6⟩:=pO tD hx;obtain⟨f7,f8⟩:=oc.1 f4;have fps:=rB _ (ao hx);have fb:=mN l (i+j);have ft:=C8 l (i+j);have ft2:=C8 l (i+j+1);rw[xX hx]at ft2;have ftk:=xW (-1) hx;have ftl:=mN l (i+j+1);simp only at fps;refine cD bu iM G G G (hu.le h4.S.le) cf hV (λMn Et yY yC=>?_);obtain rfl:(d,ps)=Et:=dJ (aK (yY.symm.trans (by rw[aw,dI,if_pos hV,gY];exact hx)));refine cv (M:=M2) (A:=RT.po) b9 G iM q0 G G G Ub (by repeat (first|exact bI _ _|refine aX (bJ Ub) ?_)) (λZ3 Mp=>?_);refine oQ (A:=RT.po) (M:=M2) iM G G G G G Ub (by repeat (first|exact bI _ _|refine aX (bJ Ub) ?_)) a56 (λam1 TE Wz tG am2=>?_);refine ad (aN ?_);have h5:=h4.step tG;have hO:=h5.o;have hX:=h5.x;have hL:=h5.l;have hB:=h5.hb;have eK:=h5.lt;have hp0:=Wz;apply T.HB (M:=M2) (n:=85) _ mixed [] [cj.eq _,cj.eq _,cj.eq _,cj.eq _,cj.eq _,cj.ptr (RT.int .i64) d,cj.eq (.int .i64 d),cj.eq _,cj.eq _,cj.eq (.int .i64 (((d-cI (-1) (l.take (i+j))-1).toNat:Nat):Int)),cj.V (RT.u8.sl) (ei (-1) (l.take (i+j))++put (d-cI (-1) (l.take (i+j))-1).toNat),cj.eq _,cj.eq _]
      ·rfl
      ·rfl
      ·rfl
      ·rfl
      ·exact a86
      ·exact qA
      ·refine ay ?_ ?_
       ·intro wD E sD;refine aG dL G G G (bY sD Ub) G ?_;exact a00
       refine ay ?_ ?_
       ·intro wD E sD;refine aG dL G G G (bY sD Ub) G ?_;exact a00
       refine ay ?_ ?_
       ·intro wD E sD;refine aq (aW G ⟨_,G⟩ G ?_);exact a00
       refine ay ?_ ?_
       ·intro wD E sD;refine aq (aT eg G G Dp q0 G G ?_);exact a00
       refine ay ?_ ?_
       ·intro wD E sD;refine aq (aG bT G G G (bY sD Ub) G ?_);exact a00
       refine ay ?_ ?_
       ·intro wD E sD;refine ar (M:=M2) (A:=RT.po) (B:=RT.int .i64) b9 G G I3 q0 (PX) G G q0 Ub (by repeat (first|exact bI _ _|refine aX (bJ Ub) ?_)) (λam3 ah7=>?_);exact ad ⟨G,G,_,G,by assumption,aV⟩
       refine ay ?_ ?_
       ·intro wD E sD;intro v5 pF;refine b4 (M:=M2) ak G G Ub (by repeat (first|exact bI _ _|refine aX (bJ Ub) ?_)) (λah8=>?_);exact a00
       refine ay ?_ ?_
       ·intro wD E sD;refine aG ak G G G (bY sD Ub) G ?_;exact a00
       refine ay ?_ ?_
       ·intro wD E sD;refine aq (aq (jw G G G hV ?_));exact a00
       refine ay ?_ ?_
       ·intro wD E sD;refine aq (jw G G G hV (bh (v':= .int .i64 (((d-cI (-1) (l.take (i+j))-1).toNat:Nat):Int)) (by congr 1;omega) ?_));exact a00
       refine ay ?_ ?_
       ·intro wD E sD;refine aq (aq ?_);refine aQ G G U3 (NI (M:=M2) (sD.lt eK) (hB.le sD.le) hV hV) (λrP wP hP=>?_);exact ad ⟨G,G,_,G,hP.2,hP.1⟩
       refine ay ?_ ?_
       ·intro wD E sD;refine aq (aq (aq (aq (aq (aq ?_)))));intro v5 pF;refine aq (aq (aq (aq ?_)));intro v10 sh;refine aW G ⟨_,G⟩ G ?_;exact a00
       refine ay ?_ ?_
       ·intro wD E sD;refine aq (aq (aq (aq (aq (aq ?_)))));intro v5 pF;refine aq (aq (aq (aq ?_)));intro v10 sh;refine aT eg G G Dp q0 G G ?_;exact a00
       exact jS
      ·intro Eg dU;refine aq (aq (aq (aq (aq ?_))));intro am4 ah9;refine aq (aq (aq (aq ?_)));intro NX xq;refine aq (aq ?_);have h6:=h5.step dU;have hp6:=hp0.le q0 dU.le;refine cg (M:=M2) Dp G G h6.x G (jl xq G G) h6.mx (λw11 Cm yZ=>?_);refine ad ⟨G,?_⟩;have h7:=h6.Ww yZ Cm (RT.V.le yZ.le xq) h6.hk;have Yt:=hp6.le q0 yZ.le;refine aN ?_;have hO:=h7.o;have hX:=h7.x;have hB:=h7.hb;have eK:=h7.lt;have fbl:(ei (-1) (l.take (i+j))++put (d-cI (-1) (l.take (i+j))-1).toNat).length<=35184372088832:=by rw[ftk]at ftl;simp only[bG]at ftl ⊢;omega
       apply T.SE (M:=M2) mixed [(13,λk=>k=bx)] [cj.eq _,cj.eq _,cj.eq _,cj.eq _,cj.eq _,cj.ptr ((RT.int .i64).sl) ps,cj.V ((RT.int .i64).sl) ps,⟨λt w=>∃x,t= .tuple #[x,.int .i64 0]/\(RT.u8.sl).V M2 w (ei (-1) (l.take (i+j))++put (d-cI (-1) (l.take (i+j))-1).toNat++eM ps) x,IU,fun⟨x,h1,h2⟩ s _=>⟨x,h1,h2.le s.le⟩⟩,⟨λt w=>∃x,t= .tuple #[x,.int .i64 0]/\(RT.u8.sl).V M2 w (ei (-1) (l.take (i+j))++put (d-cI (-1) (l.take (i+j))-1).toNat++eM ps) x,IU,fun⟨x,h1,h2⟩ s _=>⟨x,h1,h2.le s.le⟩⟩,cj.V (RT.u8.sl) (ei (-1) (l.take (i+j))++put (d-cI (-1) (l.take (i+j))-1).toNat++eM ps),cj.eq (.int .i64 0),cj.eq _,cj.eq _,⟨λ_ w=>∃x,w.heap[bx]? =some (.cells #[x,vk,.int .i64 (iX (l.take (i+j)))] 296 (0,0))/\(RT.u8.sl).V M2 w (ei (-1) (l.take (i+j))++put (d-cI (-1) (l.take (i+j))-1).toNat++eM ps) x,λk=>k≠bx,fun⟨x,h1,h2⟩ s hN=>⟨x,s.bR h1 (λhb=>hN _ hb rfl),h2.le s.le⟩⟩]
       ·rfl
       ·intro p hp b hb;simp only[cO]at hp;subst hp
        cases hb;exact h7.mx
       ·exact⟨λ_ _ _ _=>trivial,⟨λ_ _ _ _=>trivial,⟨λ_ _ _ _=>trivial,⟨λ_ _ _ _=>trivial,⟨λ_ _ _ _=>trivial,⟨λ_ _ _ _=>trivial,⟨λ_ _ _ _=>trivial,⟨λ_ _ _ _=>trivial,⟨λ_ _ _ _=>trivial,⟨λ_ _ _ _=>trivial,⟨λ_ _ _ _=>trivial,⟨λ_ _ _ _=>trivial,⟨λ_ _ _ _=>trivial,⟨λp hp=>by simp at hp,trivial⟩⟩⟩⟩⟩⟩⟩⟩⟩⟩⟩⟩⟩⟩
       ·refine aI ?_ ?_
        ·intro wD E sD;replace sD:Step M2 _ M2 wD aE:=sD;refine aG dL G G G (bY sD Ub) G ?_;exact a00
        refine aI ?_ ?_
        ·intro wD E sD;replace sD:Step M2 _ M2 wD aE:=sD;refine aG dL G G G (bY sD Ub) G ?_;exact a00
        refine aI ?_ ?_
        ·intro wD E sD;replace sD:Step M2 _ M2 wD aE:=sD;refine aq (aW G ⟨_,G⟩ G ?_);exact a00
        refine aI ?_ ?_
        ·intro wD E sD;replace sD:Step M2 _ M2 wD aE:=sD;refine aq (aT eg G G Dp q0 G G ?_);exact a00
        refine aI ?_ ?_
        ·intro wD E sD;replace sD:Step M2 _ M2 wD aE:=sD;refine aq (aG bT G G G (bY sD Ub) G ?_);exact a00
        refine aI ?_ ?_
        ·intro wD E sD;replace sD:Step M2 _ M2 wD aE:=sD;refine ar (M:=M2) (A:=RT.po) (B:=(RT.int .i64).sl) b9 G G pb q0 UM G G q0 Yt sD.le (λuf tH=>?_);exact a69
        refine aI ?_ ?_
        ·intro wD E sD;replace sD:Step M2 _ M2 wD aE:=sD;intro v5 pF;refine bP av G G G G G (show cR ((RT.int .i64).sl) M2 wD v5 ps from pF) cf (λuf tH=>?_);exact a69
        refine aI ?_ ?_
        ·intro wD E sD;replace sD:Step M2 _ M2 wD aE:=sD;refine aq ?_;intro v6 p9;refine aQ G G afJ (yU (M:=M2) (sD.lt eK) (hB.le sD.le) (show((RT.int .i64).sl).V M2 wD ps v6 from p9) hV) (λrP wP hP=>?_);obtain⟨xP,sP,hP1,hP2⟩:=hP;rw[if_pos f7]at hP1 hP2;exact ad ⟨G,G,_,G,⟨xP,hP1,hP2⟩,sP⟩
        refine aI ?_ ?_
        ·intro wD E sD;replace sD:Step M2 _ M2 wD aE:=sD;intro v7 Gd;refine ab G G ?_;exact ad ⟨G,G,_,G,Gd,aV⟩
        refine aI ?_ ?_
        ·intro wD E sD;replace sD:Step M2 _ M2 wD aE:=sD;intro v8 CP;obtain⟨xP,rfl,hP2⟩:=CP;refine cq G G G ?_;exact ad ⟨G,G,_,G,hP2,aV⟩
        refine aI ?_ ?_
        ·intro wD E sD;replace sD:Step M2 _ M2 wD (λk=>k=bx):=sD;intro v8 CP;obtain⟨xP,rfl,hP2⟩:=CP;refine cq G G G ?_;exact a00
        refine aI ?_ ?_
        ·intro wD E sD;replace sD:Step M2 _ M2 wD (λk=>k=bx):=sD;refine aq (aq (aq (aq (aq (aq ?_)))));intro v5 pF;intro v6 p9;intro v7 Gd;intro v8 CP;intro v9 JB;refine aW G ⟨_,G⟩ G ?_;exact a00
        refine aI ?_ ?_
        ·intro wD E sD;replace sD:Step M2 _ M2 wD aE:=sD;refine aq (aq (aq (aq (aq (aq ?_)))));intro v5 pF;intro v6 p9;intro v7 Gd;intro v8 CP;intro v9 JB;refine aT eg G G Dp q0 G G ?_;exact a00
        refine aI ?_ ?_
        ·intro wD E sD;replace sD:Step M2 _ M2 wD aE:=sD;refine aq ?_;intro v9 JB;intro v7 Gd;refine aq (aq (aq (aq (aq ?_))));intro v5 pF;intro v6 p9;intro v7 Gd;intro v8 CP;intro v9 JB;refine cg (M:=M2) Dp G G (bY sD hX) G (jl (A:=RT.u8.sl) JB G G) h7.mx (λwS hXS sS=>?_);exact ad ⟨G,G,undef,G,⟨_,hXS,RT.V.le (A:=RT.u8.sl) sS.le JB⟩,sS⟩
        exact zV
       ·intro NY y4;replace y4:Step M2 _ M2 NY (λk=>k=bx):=y4;refine aq (aq (aq (aq (aq ?_))));intro am6 aia;intro am7 aib;intro am8 aic;intro am9 aid;intro ana aie;refine aq (aq (aq ?_));intro aif Rz;obtain⟨v12,GI,aih⟩:=Rz;have h8:=h7.Ww y4 GI aih h7.hk;have hp8:=Yt.le q0 y4.le;refine aN ?_;have hO:=h8.o;have hX:=h8.x;apply T.HB (M:=M2) (n:=85) _ mixed [] [cj.eq _,cj.eq _,cj.eq _,cj.eq _,cj.ptr ((RT.int .i64).sl) ps,cj.V ((RT.int .i64).sl) ps,cj.eq (.int .i64 ps.length),cj.eq _,cj.eq _,cj.eq _]
        ·rfl
        ·rfl
        ·rfl
        ·rfl
        ·exact a86
        ·exact qA
        ·refine ay ?_ ?_
         ·intro wD E sD;refine aG dL G G G (bY sD Ub) G ?_;exact a00
         refine ay ?_ ?_
         ·intro wD E sD;refine aq (aW G ⟨_,G⟩ G ?_);exact a00
         refine ay ?_ ?_
         ·intro wD E sD;refine aq (aT eg G G I3 q0 G G ?_);exact a00
         refine ay ?_ ?_
         ·intro wD E sD;refine aq (aG ak G G G (bY sD Ub) G ?_);exact a00
         refine ay ?_ ?_
         ·intro wD E sD;refine ar (M:=M2) (A:=RT.po) (B:=(RT.int .i64).sl) b9 G G pb q0 UM G G q0 hp8 sD.le (λuf tH=>?_);exact a69
         refine ay ?_ ?_
         ·intro wD E sD;intro v4 pE;refine bP av G G G G G (show cR ((RT.int .i64).sl) M2 wD v4 ps from pE) cf (λuf tH=>?_);exact a69
         refine ay ?_ ?_
         ·intro wD E sD;intro v5 pF;refine bN av G (show((RT.int .i64).sl).V M2 wD ps v5 from pF) G ?_;exact a00
         refine ay ?_ ?_
         ·intro wD E sD;refine aq (aq (bB G G G hV ?_));exact a00
         refine ay ?_ ?_
         ·intro wD E sD;refine aq (aq (aq (aq (aq ?_))));intro v4 pE;intro v5 pF;refine aq (aq (aW G ⟨_,G⟩ G ?_));exact a00
         refine ay ?_ ?_
         ·intro wD E sD;refine aq (aq (aq (aq (aq ?_))));intro v4 pE;intro v5 pF;refine aq (aq (aT eg G G I3 q0 G G ?_));exact a00
         exact jS
        ·intro Mq iN;refine aq (aq (aq (aq ?_)));intro anc aii;intro HT uO;refine aq (aq (aq (aq ?_)));have h9:=h8.step iN;refine cg (M:=M2) I3 G G h9.x G G h9.mx (λWc NZ tB=>?_);refine ad ⟨G,?_⟩;have JP:=h9.Ww tB NZ (h9.hb.le tB.le) h9.hk;have aij:=(hp8.le q0 iN.le).le q0 tB.le;refine aL ?_;refine ar (A:=RT.po) (B:=RT.int .i64) b9 G G I3 q0 PX G G q0 aij cf (λane WA=>?_);refine b4 ak G G WA cf (λ_=>?_);refine bh (v':= .int .i64 d) G ?_;refine cg (M:=M2) I3 G G JP.l G G JP.ml (λMF aik jn=>?_);have h11:=JP.Ry jn aik;refine ad (aL (bB G G G hV (ab G G (ad ?_))));refine⟨G,(j+1,v12),a88,?_,?_⟩
         ·refine⟨by simp only;omega,?_,?_⟩
          ·exact jn.bR (tB.bR (iN.aB (y4.bR (yZ.bR (dU.aB (tG.aB hQ)) hV) hV)) hV) hV
          ·simp only;rw[show i+(j+1)=i+j+1 from by omega,xX hx,f5,ftk];exact h11
         ·simp only;omega
     ·refine cQ (T.aP ?_);obtain rfl:j=((l.drop i).take 8).length:=by omega
      have YM:M2 bq:=by rw[HM];exact .inl G
      refine aG ak G G G h4.l G (aT (o':=2) lr G G I3 q0 G G ?_);refine cg (M:=M2) I3 G G hQ G G YM (λTF abg GK=>?_);have Yw:=h4.other GK hDq hqv;change TF.heap[bq]? =some (.cells [.int .i64 (ei (-1) (l.take i)).length,.int .i64 (cI (-1) (l.take i)),.int .i64 (cI (-1) (l.take (i+((l.drop i).take 8).length))),.int .i64 ((l.drop i).take 8).length].toArray 301 (0,0))at abg;refine ad ?_;have hO:=Yw.o;have hX:=Yw.x;have RA:=Yw.hk;have iu:∀k,vk.ownBlock=some k->k≠bo:=λk hk=>by have:=(RA.base k hk).1;omega
      have arw:=ae Yw.r;have g1:=kd l (-1) tD hV i;have g2:=kd l (-1) tD hV (i+((l.drop i).take 8).length);have g3:=mN l i;apply T.HB (M:=M2) (n:=85) _ mixed [(7,λk=>vk.ownBlock=some k)] [cj.eq _,cj.eq _,cj.eq _,cj.eq _,cj.eq _,cj.eq (.agg [.int .i64 (ei (-1) (l.take i)).length,.int .i64 (cI (-1) (l.take i)),.int .i64 (cI (-1) (l.take (i+((l.drop i).take 8).length))),.int .i64 ((l.drop i).take 8).length].toArray),cj.V ((RT.bl).sl) [(((ei (-1) (l.take i)).length:Int),cI (-1) (l.take i),cI (-1) (l.take (i+((l.drop i).take 8).length)),(((l.drop i).take 8).length:Int))],⟨λt w=>∃M3,Own RT.bl 301 M3 w (D+2) t (o9 l ((i+7)/8)++[(((ei (-1) (l.take i)).length:Int),cI (-1) (l.take i),cI (-1) (l.take (i+((l.drop i).take 8).length)),(((l.drop i).take 8).length:Int))])/\Step M2 TF M3 w (λk=>vk.ownBlock=some k),aE,fun⟨M3,h1,h2⟩ s hN=>⟨M3,h1.bM ((s.ek hN a18).any M3),h2.ax ((s.ek hN a18).any M3)⟩⟩,cj.eq _,cj.eq _]
      ·rfl
      ·rfl
      ·rfl
      ·rfl
      ·intro p hp b hb;simp only[cO]at hp;subst hp;exact RA.mut_ b hb
      ·exact⟨λ_ _ _ _=>trivial,⟨λ_ _ _ _=>trivial,⟨λ_ _ _ _=>trivial,⟨λ_ _ _ _=>trivial,⟨λ_ _ _ _=>trivial,⟨λ_ _ _ _=>trivial,⟨λ_ _ _ _=>trivial,⟨λp hp=>by simp at hp,⟨λ_ _ _ _=>trivial,⟨λ_ _ _ _=>trivial,trivial⟩⟩⟩⟩⟩⟩⟩⟩⟩⟩
      ·refine ay ?_ ?_
       ·intro wD E sD;replace sD:Step M2 _ M2 wD (λk=>vk.ownBlock=some k):=sD;refine aG dL G G G (sD.bR hO (λhb=>iu _ hb rfl)) G ?_;exact a00
       refine ay ?_ ?_
       ·intro wD E sD;replace sD:Step M2 _ M2 wD (λk=>vk.ownBlock=some k):=sD;refine aG dL G G G (sD.bR hO (λhb=>iu _ hb rfl)) G ?_;exact a00
       refine ay ?_ ?_
       ·intro wD E sD;replace sD:Step M2 _ M2 wD (λk=>vk.ownBlock=some k):=sD;refine aq (aW G ⟨_,G⟩ G ?_);exact a00
       refine ay ?_ ?_
       ·intro wD E sD;replace sD:Step M2 _ M2 wD (λk=>vk.ownBlock=some k):=sD;refine aq (aT eg G G FO q0 G G ?_);exact a00
       refine ay ?_ ?_
       ·intro wD E sD;replace sD:Step M2 _ M2 wD aE:=sD;refine aq (aG fc G G G (bY sD Ub) G ?_);exact a00
       refine ay ?_ ?_
       ·intro wD E sD;replace sD:Step M2 _ M2 wD (λk=>vk.ownBlock=some k):=sD;refine eC (vs:=[.int .i64 (ei (-1) (l.take i)).length,.int .i64 (cI (-1) (l.take i)),.int .i64 (cI (-1) (l.take (i+((l.drop i).take 8).length))),.int .i64 ((l.drop i).take 8).length]) lr G Ab G G G (sD.bR abg (λhb=>hqv _ hb rfl)) ?_;exact a00
       refine ay ?_ ?_
       ·intro wD E sD;replace sD:Step M2 _ M2 wD aE:=sD;refine aq ?_;refine fp (A:=RT.bl) (hn:=by decide) (M:=M2) fc Ab q0 G G (sD.lt Yw.lt) (ae6 hV hV hV hV) (.inl G) (λuS wS hS sS=>?_);exact ad ⟨G,G,_,G,hS,sS⟩
       refine ay ?_ ?_
       ·intro wD E sD;replace sD:Step M2 _ M2 wD aE:=sD;refine aq ?_;intro v6 p9;refine dH (M:=M2) (base:=D+2) fc Ab rfl rfl rfl rfl (RA.bM sD) (show((RT.bl).sl).V M2 wD [(((ei (-1) (l.take i)).length:Int),cI (-1) (l.take i),cI (-1) (l.take (i+((l.drop i).take 8).length)),(((l.drop i).take 8).length:Int))] v6 from p9) cf (by simp[o9];omega) (by simp[o9];omega) (by have:=sD.size;omega) (λv3 M3 w3 P2 s3=>?_);exact ad ⟨G,G,_,G,⟨M3,P2,(sD.ek a18 RA.mut_).trans s3 (λb _ hb=>hb)⟩,s3.back⟩
       refine ay ?_ ?_
       ·intro wD E sD;replace sD:Step M2 _ M2 wD (λk=>vk.ownBlock=some k):=sD;refine aq (aq (aq (aq (aq (aq (aq ?_))))));intro v6 p9;intro v7 Gd;refine aW G ⟨_,G⟩ G ?_;exact a00
       refine ay ?_ ?_
       ·intro wD E sD;replace sD:Step M2 _ M2 wD (λk=>vk.ownBlock=some k):=sD;refine aq (aq (aq (aq (aq (aq (aq ?_))))));intro v6 p9;intro v7 Gd;refine aT eg G G FO q0 G G ?_;exact a00
       exact jS
      ·intro WB tI;replace tI:Step M2 _ M2 WB (λk=>vk.ownBlock=some k):=tI;refine aq (aq (aq (aq (aq (aq ?_)))));intro anf ail;intro ang WC;refine aq (aq ?_);obtain⟨M3,P2,sR⟩:=WC;obtain⟨⟨hx3,hm3,ary⟩,Uw⟩:=Yw.grow sR P2;refine cg (M:=M3) FO rfl rfl hx3 rfl (by obtain⟨_,_,he,_⟩:=P2.isSlice;rw[he];rfl) hm3 (λw17 aim s17=>?_);refine ad ⟨G,?_⟩;have Wm:=Uw s17 aim;have h18:=Wm.pq (st':= .loop (rec .ready none)) Wm.r;have hE:i+((l.drop i).take 8).length=min (i+8) l.length:=by omega
       rw[hE,Lx hV hi]at h18;exact⟨Wm.r,true,rfl,λ_=>⟨M3,_,_,h18,by omega,by omega⟩,λh=>by cases h⟩
  ·obtain⟨Mz,vb,vk,h,_,_⟩:=h3.resolve_right (λh=>h);left;rw[List.take_length]at h;have h5:=h.pq (st':= .loop (rec .exhausted none)) h.r;refine ⟨h.r,?_⟩;generalize w3.putObj (D+1) _=wE at h5 ⊢;refine T.aP (aG dL G G G h5.o G (aF G G (Rg.bg G G (aJ ?_))));obtain⟨q1,q2,q3,q4,q5,q6,q7,q8,q9,q10,q11,q12,q13,q14,q15,q16,q17,q18⟩:=h5.ne;have sZ:Step Mz wE Mz (wE.putObj D (.deferred none)) (λk=>k=D):=fY h5.md;have SZ:=h5.S.ch sZ (λk hk=>by subst hk;omega);have ht:=od l;refine UI rfl rfl rfl h5.d ⟨SZ.back,λ_=>⟨_,rfl,?_⟩,λhf=>by rw[tD]at hf;cases hf⟩;exact Za (sZ.bR h5.x hV) (λhh=>by have:=hM _ hh;omega) ((h5.hb.le sZ.le).le (nT hM SZ)) (xd hM SZ ((h5.hk.step sZ (λk hk hh=>by have:=(h5.hk.base k hk).1;omega)).iJ hV) (by simp[o9];omega)) hV
namespace TKBldG
theorem kn:TI Tryz.prog 117 (.slice none 0 0) 1 24:=by unfold TI;kernel_rfl
theorem JW:TI Tryz.prog 249 (.slice none 0 0) 1 24:=by unfold TI;kernel_rfl
theorem RB:Enters Tryz.prog 155:=enters Tryz.func155 rfl q0
theorem aio:Enters Tryz.prog 196:=enters Tryz.func196 rfl q0
end TKBldG
open TKBldG
set_option maxRecDepth 10000
theorem index_spec {M:aH} {l:List (List Po)} {v0:Value} {g:FuncId} {cap:List Value} {B:Nat} {J:Nat->aH->World->Prop} {bad:List Po->Bool} (w0:World) (hM:Lt M w0) (hv:(((RT.po).sl).sl).V M w0 l v0) (hg:Enters Tryz.prog g) (hJ:J 0 M w0) (kC:∀i M w M' w',J i M w->Step M w M' w' aE->J i M' w') (ht:∀i M w x vx,J i M w->Lt M w->l[i]? =some x->((RT.po).sl).V M w x vx->Spec Tryz.prog g ([vx]++cap).toArray w (λv w'=>∃M',Lt M' w'∧v= .bool (bad x)/\(bad x=false->J (i+1) M' w')/\Step M w M' w' (kT M B))):
  Spec Tryz.prog 196 #[v0,.func (.func g) #[] cap.toArray] w0 (λv w=>∃M' k,v= .int .i64 k/\ -1<=k/\Lt M' w/\Step M w0 M' w (kT M B)/\(k= -1->(∀x∈l,bad x=false)/\J l.length M' w)/\(0<=k->∃x∈l,bad x=true)):=by
 have hlen:=dQ hv;refine a8 (args:=[_,_]) (fn:=Tryz.f196) Tryz.func196 G (n:=19) Tryz.ntmps196 ?_;have S:Step M w0 M w0 (kT M B):=(aV).ek a18 (λ_ h=>h.2);refine T.aP (Rg.bg G G (aN (T.aP (ab G G (bN Tryz.underlying112 G hv G (ab G G (ad (aY ?_))))))));refine dz (σ:=Nat) (λq=>[(0,v0),(1,.func (.func g) #[] cap.toArray),(6,v0),(7,.int .i64 (l.length:Int)),(8,.int .i64 (q:Int))]) (λq w=>∃M',Lt M' w/\Step M w0 M' w (kT M B)/\(((RT.po).sl).sl).V M' w l v0/\J q M' w/\q<=l.length/\∀x∈l.take q,bad x=false) (λq=>l.length-q) 0 a65 ?_ ?_
 ·exact⟨M,hM,S,hv,hJ,bm _,λx h=>by simp at h⟩
 ·clear hM S hv hJ;rintro i w ⟨M1,hM,S,hv,hJ,hi,jB⟩;refine T.aP (cy G G G (ad (aN ?_)));refine bF G (λc2=>?_) (λc2=>?_)
  ·refine aR (aN (aY (T.aP (ab G G (Rg.bg G G (T.aP (ab G G (ab G G ?_))))))));refine ab G G ?_;refine cD Tryz.underlying112 kn G G G hv cf hV (λu x FR hu=>?_);rw[aw]at FR;refine bP bu G G G G G hu cf (λvx yz=>?_);refine uk (first:=[]) (captured:=cap) (xs:=[.tmp 15]) G G G hg (ht i _ _ x vx hJ hM FR yz) (λr4 w4 hc=>?_);obtain⟨M4,TG,rfl,hJ4,s4⟩:=hc;refine bh (v':= .bool (decide (bad x=true))) (by simp) ?_;have S4:=S.trans s4 (λk hk h=>⟨h.1,(S.mem k hk).1 h.2⟩);refine ad ?_;refine bF G (λc4=>?_) (λc4=>?_)
   ·refine T.aP (ab G G (Rg.bg G G (aJ ?_)));exact aM G G ⟨M4,_,G,by omega,TG,S4,λh=>absurd h hV,λ_=>⟨x,ao FR,c4⟩⟩
   ·refine aR (aL (bB G G G hV (ab G G (ad ?_))));refine⟨G,i+1,a65,?_,?_⟩
    ·have hb:bad x=false:=by simpa using c4
     exact⟨M4,TG,S4,hv.le s4.le,hJ4 hb,by omega,λy hy=>by
      rw[bX,FR,dx,dw,cO]at hy;rcases hy with hy|rfl
      ·exact jB y hy
      ·exact hb⟩
    ·omega
  ·refine cQ (T.aP (Rg.bg G G (aJ ?_)));rw[bD hV]at jB;have e:i=l.length:=by omega
   subst e;exact aM G G ⟨_,_,G,by omega,hM,S,λ_=>⟨jB,hJ⟩,λh=>absurd h hV⟩
theorem Am {M:aH} {l:List (List Po)} {v0:Value} {g:FuncId} {cap:List Value} {B:Nat} {J:Nat->aH->World->Prop} {bad:List Po->Bool} (w0:World) (hM:Lt M w0) (hv:(((RT.po).sl).sl).V M w0 l v0) (hg:Enters Tryz.prog g) (hJ:J 0 M w0) (kC:∀i M w M' w',J i M w->Step M w M' w' aE->J i M' w') (ht:∀i M w x vx,J i M w->Lt M w->l[i]? =some x->((RT.po).sl).V M w x vx->Spec Tryz.prog g ([vx]++cap).toArray w (λv w'=>∃M',Lt M' w'∧v= .bool (bad x)/\(bad x=false->J (i+1) M' w')/\Step M w M' w' (kT M B))):
  Spec Tryz.prog 156 #[v0,.func (.func g) #[] cap.toArray] w0 (λv w=>∃M' k,v= .bool (decide (0<=k))/\ -1<=k/\Lt M' w/\Step M w0 M' w (kT M B)/\(k= -1->(∀x∈l,bad x=false)/\J l.length M' w)/\(0<=k->∃x∈l,bad x=true)):=by
 refine a8 (args:=[_,_]) (fn:=Tryz.f156) Tryz.func156 G (n:=9) Tryz.ntmps156 (T.aP (Rg.bg G G (T.aP (ab G G (ab G G ?_)))));refine aQ G G aio (index_spec w0 hM hv hg hJ kC ht) (λr w1 hc=>?_);obtain⟨M1,k,rfl,hk,h2⟩:=hc;refine ed G G G (Rg.bg G G (aJ ?_));exact aM G G ⟨M1,k,G,hk,h2⟩
def Eu (x:List Po):Int:=match x.getLast? with|some p=>p.1|none=> -1
def mQ (n:Int) (x:List Po):Bool:= !ez (-1) x||x.isEmpty||decide (n<=Eu x)
theorem Ev {x:List Po} {p:Po} (h:x[x.length-1]? =some p):Eu x=p.1:=by
 unfold Eu;rw[List.getLast?_eq_getElem?,h]
structure Room (x:List Po):Prop where
 ps:∀p∈x,p.2.length<=1099511627776
 by_:(ei (-1) x).length<=35184372088832
 ln:x.length<=1099511627776
 uC:iX x<=4611686018427387904
def RT.cell:RT Value where
 n:=1
 agg:=false
 R:=λ_ _ x vs=>vs=[x]/\x.oneCell'=true
 len:=by rintro _ _ x vs ⟨rfl,_⟩;rfl
 one:=by rintro _ _ x vs ⟨rfl,h⟩ v hv;simp at hv;subst hv;exact h
 le:=λ_ h=>h
theorem RC {M:aH} {w:World} {v:Value} (h:v.oneCell'=true):RT.cell.V M w v v:=⟨[v],⟨rfl,h⟩,rfl⟩
theorem fF.cells {α:Type} {A:RT α} (hA:A.n=1) {M:aH} {w:World}:∀{xs:List α} {C:List Value},fF A M w xs C->∃ys:List Value,fF RT.cell M w ys C/\ys.length=xs.length
 |[],C,h=>⟨[],h,rfl⟩
 |x::xs,C,h=>by
  obtain⟨vs,r,h1,h2,h3⟩:=h;obtain⟨ys,h4,h5⟩:=fF.cells hA h3;have hl:=A.len h2
  match vs,hl,h1,h2 with
  |[v],_,h1,h2=>exact⟨v::ys,⟨[v],r,h1,⟨rfl,A.one h2 v (by simp)⟩,h4⟩,by simp[h5]⟩
  |[],hl,_,_=>simp at hl;omega
  |_::_::_,hl,_,_=>simp at hl;omega
theorem Own.cells {α:Type} {A:RT α} (hA:A.n=1) {e:TypeId} {M:aH} {w:World} {base:Nat} {v:Value} {xs:List α} (h:Own A e M w base v xs):∃ys:List Value,Own RT.cell e M w base v ys/\ys.length=xs.length:=by
 obtain⟨⟨C,hr,ha⟩,hm⟩:=h;obtain⟨ys,h1,h2⟩:=ha.cells hA;exact⟨ys,⟨⟨C,by rw[h2,show RT.cell.n=A.n from hA.symm];exact hr,h1⟩,hm⟩,h2⟩
def An (bl bn:Nat) (n:Int) (ls:List (List Po)) (B:Nat) (i:Nat) (M:aH) (w:World):Prop:=∃vl,w.heap[bl]? =some (.cells #[vl] 249 (0,0))/\M bl/\B<=bl/\w.heap[bn]? =some (.cells #[.int .i64 n] 3 (0,0))/\M bn/\Own ((RT.li).ptr) 250 M w B vl ((ls.take i).map kG)
theorem An.bM {bl bn:Nat} {n:Int} {ls:List (List Po)} {B i:Nat} {M M':aH} {w w':World} (h:An bl bn n ls B i M w) (s:Step M w M' w' aE):An bl bn n ls B i M' w':=by
 obtain⟨vl,h1,h2,h3,h4,h5,h6⟩:=h;exact⟨vl,s.aB h1,(s.mem _ (ae h1)).2 h2,h3,s.aB h4,(s.mem _ (ae h4)).2 h5,h6.bM s⟩
theorem WD {M:aH} {bl bn B i:Nat} {n:Int} {ls:List (List Po)} {x:List Po} {v0:Value} (w0:World) (hM:Lt M w0) (hB:B<=w0.heap.size) (hJ:An bl bn n ls B i M w0) (hx:ls[i]? =some x) (hv:((RT.po).sl).V M w0 x v0) (hr:Room x) (qE:i<=1000000000) (hm:ez (-1) x=true):
  Spec Tryz.prog 154 #[v0,.pointer (some ⟨bl,0,none⟩),.pointer (some ⟨bn,0,none⟩)] w0 (λv w=>∃M',Lt M' w/\v= .bool (mQ n x)/\(mQ n x=false->An bl bn n ls B (i+1) M' w)/\Step M w0 M' w (kT M B)):=by
 have hlen:=dQ hv;obtain⟨vl,gl,ko,hBl,gn,lW,ho⟩:=hJ;have nln:bl≠bn:=λh=>by rw[h,gn]at gl;simp at gl
 refine a8 (args:=[_,_,_]) (fn:=Tryz.f154) Tryz.func154 G (n:=34) Tryz.ntmps154 ?_;have S:Step M w0 M w0 (kT M B):=(aV).ek a18 (λ_ h=>h.2);refine T.aP (Rg.bg G G (T.aP (ab G G ?_)));refine aQ G G RB (uZ hM hv hr.ps hr.by_ hr.ln hr.uC) (λr1 w1 hc=>?_);obtain⟨s1,eZ,jB⟩:=hc;obtain⟨p,rfl,hp⟩:=eZ hm;have:=ae gl;replace ko:=(s1.mem _ this).2 ko;replace gl:=s1.aB gl;have:=ae gn;replace lW:=(s1.mem _ this).2 lW;replace gn:=s1.aB gn;replace hv:=hv.le s1.le;replace ho:=ho.bM s1;replace hM:=s1.lt hM;have:=S.size;replace S:=S.ax s1;refine ab G G (cq G G G (cq G G G (aF G G (Rg.bg G G (T.aP (aG fa G G G gl G (bh (v':=vl) G (ab G G ?_))))))));refine fp (A:=((RT.li).ptr)) (hn:=by decide) (M:=M) fa rO q0 G G hM (H5.2 hp) (.inr ⟨G,G⟩) (λaiq air lX px=>?_);have:=ae gl;replace ko:=(px.mem _ this).2 ko;replace gl:=px.aB gl;have:=ae gn;replace lW:=(px.mem _ this).2 lW;replace gn:=px.aB gn;replace hv:=hv.le px.le;replace hp:=hp.le q0 px.le;replace ho:=ho.bM px;replace hM:=px.lt hM;have:=S.size;replace S:=S.ax px;refine dH (M:=M) (base:=B) fa rO rfl rfl rfl rfl ho lX cf a08 a08 ad8 (λWE GL ais N0 py=>?_);have:=ae gl;replace ko:=(py.mem _ this).2 ko;replace gl:=py.bR gl (λh=>by first|exact ho.eD gl h|exact ho.fx gl q0 h|(have:=(ho.base _ h).1;omega));have:=ae gn;replace lW:=(py.mem _ this).2 lW;replace gn:=py.bR gn (λh=>by first|exact ho.eD gn h|exact ho.fx gn q0 h|(have:=(ho.base _ h).1;omega));replace hv:=hv.le py.le;replace hp:=hp.le q0 py.le;replace lX:=lX.le py.le;replace hM:=py.lt hM;have:=S.size
 replace S:=S.trans py (λk hk h=>⟨(ho.base k h).1,(S.mem k hk).1 (ho.mut_ k h)⟩);replace ho:=N0;refine cg (M:=GL) JW rfl rfl gl rfl a95 ko (λWG N1 nM=>?_);change WG.heap[_]? =some (Obj.cells #[WE] _ _)at N1;have:=ae gl;replace ko:=(nM.mem _ this).2 ko;have:=ae gn;replace lW:=(nM.mem _ this).2 lW;replace gn:=nM.bR gn a03;replace hv:=hv.le nM.le;replace hp:=hp.le q0 nM.le;replace lX:=lX.le nM.le;replace ho:=ho.step nM (λc hc (h:c=bl)=>ho.fx gl q0 (h▸hc));replace hM:=nM.lt hM;have:=S.size;replace S:=S.trans nM (λk hk h=>by have h:_=_:=h;subst h;first|(exfalso;omega)|(show _<=_;omega)|exact⟨by first|omega|assumption,(S.mem _ hk).1 ((nM.mem _ (ae gl)).1 ko)⟩|exact .inl rfl|exact .inr rfl|exact .inr (.inl rfl)|exact .inr (.inr rfl)|exact .inr (.inr (.inl rfl))|exact rfl);have gl_:=N1;clear gl;have gl:=gl_;clear gl_;refine ad (aN ?_);apply um mixed rfl rfl;intro ZL ZM;have pf:=ZM GL;have:=ae gl;replace ko:=(pf.mem _ this).2 ko;replace gl:=pf.aB gl;have:=ae gn;replace lW:=(pf.mem _ this).2 lW;replace gn:=pf.aB gn;replace hv:=hv.le pf.le;replace hp:=hp.le q0 pf.le;replace lX:=lX.le pf.le;replace ho:=ho.bM pf;replace hM:=pf.lt hM;have:=S.size;replace S:=S.ax pf;refine ab G G (Rg.dm (eW G G G (Rg.dm (ab G G (Rg.dm (Rg.Fw (g:=18) G (q0) (ah G G (ab G G (Rg.dm (ah G G (bN bu G hv G ?_)))))))))));refine Rg.dm (ah G G (ic G G G (Rg.dm (az G G G (Rg.dm (ab G G (Rg.dm ?_)))))));refine aO (g:=23) G (λWH=>?_) (λWH=>?_)
 ·refine aj G G G G (Rg.dm (aj G G G G (Rg.dm (aj G G G G (Rg.dm (aj G G G G (Rg.dm (aj G G G G (Rg.dm (aj G G G G (Rg.dm ?_)))))))))));refine aj G G G G (Rg.dm (aj G G G G (Rg.dm (aj G G G G (Rg.dm (aU G G G (Rg.dm (aF G G (Rg.dm (gm (aJ ?_)))))))))))
  first
  |(have N2:mQ n x=true:=by
     have:x=[]:=cE.1 hV;simp[mQ,this]
    rw[N2];exact aM G G ⟨_,hM,G,(λh=>by cases h),S⟩)
  |(have fq:x.isEmpty=false:=by cases x with
     |nil=>simp at WH
     |cons a t=>rfl
    have hbv:mQ n x=decide (n<=q.1):=by unfold mQ;rw[hm,fq,Ev hq];rfl
    rw[hbv];exact aM rfl rfl ⟨_,hM,rfl,λ_=>⟨_,gl,ko,hBl,gn,lW,by rw[bX,hx,dx,eu];exact ho⟩,S⟩)
 ·refine ah G G (ab G G (Rg.dm (ah G G (ab G G (Rg.dm (ah G G (bN bu G hv G (Rg.dm (ah G G (jw G G G hV (Rg.dm ?_)))))))))));refine ah G G ?_;obtain⟨q,hq⟩:∃q,x[x.length-1]? =some q:=⟨_,an hV⟩;refine cD bu iM G G G hv cf hV (λu3 a VM jJ=>?_);obtain rfl:q=a:=aK (hq.symm.trans (by rw[show((x.length:Int)-1).toNat=x.length-1 from by omega]at VM;exact VM));refine Rg.dm (ah G G ?_);refine ar (M:=GL) (A:=RT.po) (B:=RT.int .i64) b9 G G I3 q0 (PX) G G q0 Ub (by repeat (first|exact bI _ _|refine aX (bJ Ub) ?_)) (λani aiu=>?_);refine Rg.dm (ah G G ?_);refine b4 (M:=GL) ak G G Ub (by repeat (first|exact bI _ _|refine aX (bJ Ub) ?_)) (λN4=>?_);refine bh (v':= .int .i64 (q.1)) G ?_;replace N4: -9223372036854775808<=(q.1:Int)/\q.1<=9223372036854775807:=N4;refine Rg.dm (ah G G (aG ak G G G gn G (bh (v':= .int .i64 n) G (Rg.dm (ah G G (ed G G G (Rg.dm (az G G G (Rg.dm (aF G G (Rg.dm ?_)))))))))));refine gm (aJ ?_)
  first
  |(have N2:mQ n x=true:=by
     have:x=[]:=cE.1 hV;simp[mQ,this]
    rw[N2];exact aM G G ⟨_,hM,G,(λh=>by cases h),S⟩)
  |(have fq:x.isEmpty=false:=by cases x with
     |nil=>simp at WH
     |cons a t=>rfl
    have hbv:mQ n x=decide (n<=q.1):=by unfold mQ;rw[hm,fq,Ev hq];rfl
    rw[hbv];exact aM rfl rfl ⟨_,hM,rfl,λ_=>⟨_,gl,ko,hBl,gn,lW,by rw[bX,hx,dx,eu];exact ho⟩,S⟩)
theorem RD {M:aH} {bl bn B i:Nat} {n:Int} {ls:List (List Po)} {x:List Po} {v0:Value} (w0:World) (hM:Lt M w0) (hB:B<=w0.heap.size) (hJ:An bl bn n ls B i M w0) (hx:ls[i]? =some x) (hv:((RT.po).sl).V M w0 x v0) (hr:Room x) (qE:i<=1000000000) (hm:ez (-1) x=false):
  Spec Tryz.prog 154 #[v0,.pointer (some ⟨bl,0,none⟩),.pointer (some ⟨bn,0,none⟩)] w0 (λv w=>∃M',Lt M' w/\v= .bool (mQ n x)/\(mQ n x=false->An bl bn n ls B (i+1) M' w)/\Step M w0 M' w (kT M B)):=by
 have hlen:=dQ hv;obtain⟨vl,gl,ko,hBl,gn,lW,ho0⟩:=hJ;have nln:bl≠bn:=λh=>by rw[h,gn]at gl;simp at gl
 obtain⟨ys,ho,Yi⟩:=ho0.cells rfl;rw[bW,a7]at Yi;clear ho0;refine a8 (args:=[_,_,_]) (fn:=Tryz.f154) Tryz.func154 G (n:=34) Tryz.ntmps154 ?_;have S:Step M w0 M w0 (kT M B):=(aV).ek a18 (λ_ h=>h.2);refine T.aP (Rg.bg G G (T.aP (ab G G ?_)));refine aQ G G RB (uZ hM hv hr.ps hr.by_ hr.ln hr.uC) (λr1 w1 hc=>?_);obtain⟨s1,eZ,jB⟩:=hc;obtain rfl:=jB hm;have:=ae gl;replace ko:=(s1.mem _ this).2 ko;replace gl:=s1.aB gl;have:=ae gn;replace lW:=(s1.mem _ this).2 lW;replace gn:=s1.aB gn;replace hv:=hv.le s1.le;replace ho:=ho.bM s1;replace hM:=s1.lt hM;have:=S.size;replace S:=S.ax s1;refine ab G G (cq G G G (cq G G G (aF G G (Rg.bg G G (T.aP (aG fa G G G gl G (bh (v':=vl) G (ab G G ?_))))))));refine fp (A:=RT.cell) (hn:=by decide) (M:=M) fa rO q0 G G hM (RC (v:= .pointer none) G) (.inr ⟨G,G⟩) (λaiq air lX px=>?_);have:=ae gl;replace ko:=(px.mem _ this).2 ko;replace gl:=px.aB gl;have:=ae gn;replace lW:=(px.mem _ this).2 lW;replace gn:=px.aB gn;replace hv:=hv.le px.le;replace ho:=ho.bM px;replace hM:=px.lt hM;have:=S.size;replace S:=S.ax px;refine dH (M:=M) (base:=B) fa rO rfl rfl rfl rfl ho lX cf a08 a08 ad8 (λWE GL ais N0 py=>?_);have:=ae gl;replace ko:=(py.mem _ this).2 ko;replace gl:=py.bR gl (λh=>by first|exact ho.eD gl h|exact ho.fx gl q0 h|(have:=(ho.base _ h).1;omega));have:=ae gn;replace lW:=(py.mem _ this).2 lW;replace gn:=py.bR gn (λh=>by first|exact ho.eD gn h|exact ho.fx gn q0 h|(have:=(ho.base _ h).1;omega));replace hv:=hv.le py.le;replace lX:=lX.le py.le;replace hM:=py.lt hM
 have:=S.size;replace S:=S.trans py (λk hk h=>⟨(ho.base k h).1,(S.mem k hk).1 (ho.mut_ k h)⟩);replace ho:=N0;refine cg (M:=GL) JW rfl rfl gl rfl a95 ko (λWG N1 nM=>?_);change WG.heap[_]? =some (Obj.cells #[WE] _ _)at N1;have:=ae gl;replace ko:=(nM.mem _ this).2 ko;have:=ae gn;replace lW:=(nM.mem _ this).2 lW;replace gn:=nM.bR gn a03;replace hv:=hv.le nM.le;replace lX:=lX.le nM.le;replace ho:=ho.step nM (λc hc (h:c=bl)=>ho.fx gl q0 (h▸hc));replace hM:=nM.lt hM;have:=S.size;replace S:=S.trans nM (λk hk h=>by have h:_=_:=h;subst h;first|(exfalso;omega)|(show _<=_;omega)|exact⟨by first|omega|assumption,(S.mem _ hk).1 ((nM.mem _ (ae gl)).1 ko)⟩|exact .inl rfl|exact .inr rfl|exact .inr (.inl rfl)|exact .inr (.inr rfl)|exact .inr (.inr (.inl rfl))|exact rfl);have gl_:=N1;clear gl;have gl:=gl_;clear gl_;refine ad (aN ?_);apply um mixed rfl rfl;intro ZL ZM;have pf:=ZM GL;have:=ae gl;replace ko:=(pf.mem _ this).2 ko;replace gl:=pf.aB gl;have:=ae gn;replace lW:=(pf.mem _ this).2 lW;replace gn:=pf.aB gn;replace hv:=hv.le pf.le;replace lX:=lX.le pf.le;replace ho:=ho.bM pf;replace hM:=pf.lt hM;have:=S.size;replace S:=S.ax pf;refine ab G G (Rg.dm (eW G G G (Rg.dm (ab G G (Rg.dm (Rg.KX (g:=18) G (q0) (aj G G G G (Rg.dm (aj G G G G (Rg.dm (aj G G G G ?_)))))))))));refine Rg.dm (aU G G G (Rg.dm (ab G G (Rg.dm (aj G G G G (Rg.dm (aj G G G G (Rg.dm (aj G G G G (Rg.dm (aj G G G G ?_)))))))))));refine Rg.dm (aj G G G G (Rg.dm (aj G G G G (Rg.dm (aj G G G G (Rg.dm (aj G G G G (Rg.dm (aj G G G G (Rg.dm (aU G G G ?_)))))))))))
 refine Rg.dm (aF G G (Rg.dm (gm (aJ ?_))));have N2:mQ n x=true:=by simp[mQ,hm]
 rw[N2];exact aM G G ⟨_,hM,G,(λh=>by cases h),S⟩
theorem N5 {M:aH} {bl bn B i:Nat} {n:Int} {ls:List (List Po)} {x:List Po} {v0:Value} (w0:World) (hM:Lt M w0) (hB:B<=w0.heap.size) (hJ:An bl bn n ls B i M w0) (hx:ls[i]? =some x) (hv:((RT.po).sl).V M w0 x v0) (hr:Room x) (qE:i<=1000000000):
  Spec Tryz.prog 154 #[v0,.pointer (some ⟨bl,0,none⟩),.pointer (some ⟨bn,0,none⟩)] w0 (λv w=>∃M',Lt M' w/\v= .bool (mQ n x)/\(mQ n x=false->An bl bn n ls B (i+1) M' w)/\Step M w0 M' w (kT M B)):=by
 cases hm:ez (-1) x with
 |true=>exact WD w0 hM hB hJ hx hv hr qE hm
 |false=>exact RD w0 hM hB hJ hx hv hr qE hm
end Go.K
namespace Go.K
open Go.Proofs
namespace TKBldH
theorem JX:TI Tryz.prog 112 (.slice none 0 0) 1 24:=by unfold TI;kernel_rfl
theorem RE:TI Tryz.prog 114 (.agg #[(.slice none 0 0),(.slice none 0 0),(.slice none 0 0),(.slice none 0 0)]) 4 96:=by unfold TI;kernel_rfl
theorem aiv:TI Tryz.prog 215 (.agg #[(.slice none 0 0),(.slice none 0 0),(.pointer none)]) 3 56:=by unfold TI;kernel_rfl
theorem JW:TI Tryz.prog 249 (.slice none 0 0) 1 24:=by unfold TI;kernel_rfl
theorem aiw:placesOf Tryz.prog 215=[(0,1),(1,1),(2,1)].map some:=by kernel_rfl
theorem JQ:Enters Tryz.prog 100:=enters Tryz.func100 rfl q0
theorem aix:Enters Tryz.prog 101:=enters Tryz.func101 rfl q0
theorem aiy:Enters Tryz.prog 153:=enters Tryz.func153 rfl q0
theorem aiz:Enters Tryz.prog 154:=enters Tryz.func154 rfl q0
theorem aiA:Enters Tryz.prog 156:=enters Tryz.func156 rfl q0
theorem aiB:Enters Tryz.prog 157:=enters Tryz.func157 rfl q0
end TKBldH
open TKBldH
set_option maxRecDepth 10000
def zQ (p:Pa):Bool:=decide (p.1.length=p.2.1.length)&&fT (-1) p.2.1&&p.2.2.2.all (λx=> !mQ (p.1.length:Int) x)&&decide (p.2.2.1.length=p.2.2.2.length)&&Ej none p.2.2.1
def GM (p:Pa):Se:=(p.1,p.2.1,p.2.2.1,p.2.2.2.map kG)
structure N6 (p:Pa):Prop where
 a:p.1.length<=1000000000
 b:p.2.1.length<=1000000000
 c:p.2.2.1.length<=1000000000
 d:p.2.2.2.length<=1000000000
 e:∀x∈p.2.2.2,Room x
theorem GN {M:aH} {p:Pa} {v0:Value} (w0:World) (hM:Lt M w0) (hv:RT.pa.V M w0 p v0) (hR:N6 p):
  Spec Tryz.prog 101 #[v0] w0 (λv w=>Step M w0 M w aE/\(zQ p=true->cR RT.se M w v (GM p))/\(zQ p=false->v= .pointer none)):=by
 have iF:=hM;obtain⟨hRa,hRb,hRc,hRd,hRe⟩:=hR;refine a8 (args:=[_]) (fn:=Tryz.f101) Tryz.func101 G (n:=45) Tryz.ntmps101 ?_;have S:Step M w0 M w0 aE:=aV;refine T.aP ?_;refine fD (A:=RT.pa) G G hM hv G (λu0 w1 dF s0 _=>?_);replace hM:=s0.lt hM;have:=S.size;replace S:=S.ax s0;refine Rg.bg G G (T.aP ?_);refine ar (M:=M) (A:=RT.pa) (B:=(RT.int .i64).sl) dq G G pb q0 (pa0) G G q0 Ub (by repeat (first|exact bI _ _|refine aX (bJ Ub) ?_)) (λAe kS=>?_);refine bP (M:=M) av G G G G G Ub (by repeat (first|exact bI _ _|refine aX (bJ Ub) ?_)) (λyB lR=>?_);replace lR:((RT.int .i64).sl).V M _ p.1 yB:=lR;refine bN av G lR G ?_;refine ec M I3 G (λwO Jq agL agM j4 s1_3=>?_);obtain⟨mG,yE⟩:∃M',M'=ins M wO:=⟨_,rfl⟩;rw[<-yE]at s1_3;have jC:mG wO:=by rw[yE];exact .inl G
 change Jq.heap[wO]? =some (.cells #[.int .i64 0] _ _)at j4;replace dF:=dF.le q0 s1_3.le;replace hM:=s1_3.lt hM;have:=S.size;replace S:=S.ax s1_3;refine cg (M:=mG) I3 G G j4 G (G) jC (λVm RF lO=>?_);change Vm.heap[_]? =some (Obj.cells #[.int .i64 (p.1.length:Int)] _ _)at RF;have:=ae j4;replace jC:=(lO.mem _ this).2 jC;replace dF:=dF.le q0 lO.le;replace hM:=lO.lt hM;have:=S.size;replace S:=S.trans lO (λk hk h=>by have h:_=_:=h;subst h;first|(exfalso;omega)|(show _<=_;omega)|exact⟨by first|omega|assumption,(S.mem _ hk).1 ((lO.mem _ (ae j4)).1 jC)⟩|exact .inl rfl|exact .inr rfl|exact .inr (.inl rfl)|exact .inr (.inr rfl)|exact .inr (.inr (.inl rfl))|exact rfl);have DJ:=RF;clear j4;have j4:=DJ;clear DJ;refine ad (aN (T.aP ?_));refine ar (M:=mG) (A:=RT.pa) (B:=(RT.int .i64).sl) dq G G pb q0 (pa1) G G q0 Ub (by repeat (first|exact bI _ _|refine aX (bJ Ub) ?_)) (λarD ank=>?_);refine bP (M:=mG) av G G G G G Ub (by repeat (first|exact bI _ _|refine aX (bJ Ub) ?_)) (λaiC N7=>?_);replace N7:((RT.int .i64).sl).V mG _ p.2.1 aiC:=N7;refine bN av G N7 G (aG ak G G G j4 G (bh (v':= .int .i64 (p.1.length:Int)) G (eW G G G (ab G G ?_))));refine aO (g:=16) G (λaiD=>?_) (λaiD=>?_)
 ·refine aj G G G G (aj G G G G (aj G G G G (aj G G G G (aU G G G (ad (kJ G (T.aP (Rg.bg G G (aJ ?_)))))))))
  have eb:zQ p=false:=by
   unfold zQ
   first
   |(rw[decide_eq_false (show¬p.1.length=p.2.1.length by omega)];simp;done)
   |(simp[c2];done)
  exact aM rfl rfl ⟨S.back,λh=>by(rw[eb]at h;cases h),λ_=>rfl⟩
 ·have Ih:p.1.length=p.2.1.length:=by omega
  refine ah G G ?_;refine ar (M:=mG) (A:=RT.pa) (B:=(RT.int .i64).sl) dq G G pb q0 (pa1) G G q0 Ub (by repeat (first|exact bI _ _|refine aX (bJ Ub) ?_)) (λarE anl=>?_);refine ah G G ?_;refine bP (M:=mG) av G G G G G Ub (by repeat (first|exact bI _ _|refine aX (bJ Ub) ?_)) (λaiE N8=>?_);replace N8:((RT.int .i64).sl).V mG _ p.2.1 aiE:=N8;refine ah G G ?_;refine aQ G G aiy (JS _ N8) (λr wc hc=>?_);obtain⟨rfl,rfl⟩:=hc;refine ah G G (iv G G (bh (v':= .bool (decide (¬fT (-1) p.2.1=true))) (by simp) (az G G G (ad ?_))));refine bF G (λc2=>?_) (λc2=>?_)
  ·refine T.aP (Rg.bg G G (aJ ?_))
   have eb:zQ p=false:=by
    unfold zQ
    first
    |(rw[decide_eq_false (show¬p.1.length=p.2.1.length by omega)];simp;done)
    |(simp[c2];done)
   exact aM rfl rfl ⟨S.back,λh=>by(rw[eb]at h;cases h),λ_=>rfl⟩
  ·have er:fT (-1) p.2.1=true:=cr.1 c2;refine aR (T.aP ?_);refine ec mG JW G (λOa L8 arF arG Dx kQ=>?_);obtain⟨Ii,Ob⟩:∃M',M'=ins mG Oa:=⟨_,rfl⟩;rw[<-Ob]at kQ;have WI:Ii Oa:=by rw[Ob];exact .inl G
   change L8.heap[Oa]? =some (.cells #[.slice none 0 0] _ _)at Dx;have:=ae j4;replace jC:=(kQ.mem _ this).2 jC;replace j4:=kQ.aB j4;replace dF:=dF.le q0 kQ.le;replace hM:=kQ.lt hM;have:=S.size;replace S:=S.ax kQ;refine ad (T.aP (jd (xs:=[]) (ys:=[.tmp 4,.tmp 3]) G G G (Rg.bg G G (aN (T.aP ?_)))));refine ar (M:=Ii) (A:=RT.pa) (B:=((RT.po).sl).sl) dq G G JX q0 (pa3) G G q0 Ub (by repeat (first|exact bI _ _|refine aX (bJ Ub) ?_)) (λVG DK=>?_);refine bP (M:=Ii) Tryz.underlying112 G G G G G Ub (by repeat (first|exact bI _ _|refine aX (bJ Ub) ?_)) (λVH yF=>?_);replace yF:(((RT.po).sl).sl).V Ii _ p.2.2.2 VH:=yF;refine ab G G ?_;refine aQ G G aiA (Am (cap:=[.pointer (some ⟨Oa,0,none⟩),.pointer (some ⟨wO,0,none⟩)]) (B:=w0.heap.size) (J:=An Oa wO (p.1.length:Int) p.2.2.2 w0.heap.size) (bad:=mQ (p.1.length:Int)) _ hM yF aiz ⟨_,Dx,WI,by omega,j4,jC,eG _ _ _ _ _⟩ (λi M w M' w' h s=>h.bM s) (λi M w x vx hJ hM hx yz=>N5 w hM (by obtain⟨_,h1,_,h2,_⟩:=hJ;have:=ae h1;omega) hJ hx yz (hRe x (ao hx)) (by have:=(al.1 hx).1;omega))) (λr6 w6 hc=>?_);obtain⟨M6,k6,rfl,hk6,NK,s6,hk7,WK⟩:=hc;replace dF:=dF.le q0 s6.le;replace S:=S.ly s6 (br _);refine ad ?_;refine bF G (λc6=>?_) (λc6=>?_)
   ·obtain⟨x6,hx6,qI⟩:=WK c6
    have eb:zQ p=false:=by
     unfold zQ;have:p.2.2.2.all (λx=> !mQ (p.1.length:Int) x)=false:=List.all_eq_false.2 ⟨x6,hx6,by simp[qI]⟩;simp[this]
    refine T.aP (Rg.bg G G (aJ ?_));exact aM rfl rfl ⟨S.back,λh=>by(rw[eb]at h;cases h),λ_=>rfl⟩
   ·refine aR (T.aP ?_);obtain⟨qI,⟨vl,gl,_,_,_,_,re⟩⟩:=hk7 hV;rw[bD (br _)]at re;have k9:(((RT.li).ptr).sl).V M w6 (p.2.2.2.map kG) vl:=re.close iF S a08;replace dF:cR RT.pa M w6 u0 p:=dF.le q0 (nT iF S);replace S:=S.back;replace hM:=S.lt iF;refine ar (A:=RT.pa) (B:=RT.str.sl) dq G G vS q0 pa2 G G q0 dF cf (λarI ann=>?_);refine bP (M:=M) aD G G G G G Ub (by repeat (first|exact bI _ _|refine aX (bJ Ub) ?_)) (λaiF Oc=>?_);replace Oc:(RT.str.sl).V M _ p.2.2.1 aiF:=Oc;refine aG fa G G G gl G (bh (v':=vl) G ?_);refine aQ G G aiB (Gy _ hM Oc k9 hV a08) (λr8 w8 hc=>?_);obtain⟨pd,rfl,P3,s8⟩:=hc;replace dF:=dF.le q0 s8.le;replace k9:=k9.le s8.le;replace gl:=s8.aB gl;replace hM:=s8.lt hM;have:=S.size;replace S:=S.ax s8;refine ab G G (cq G G G (cq G G G (aF G G (Rg.bg G G (aN (T.aP (ab G G (eW G G G (ad ?_)))))))));refine bF G (λc9=>?_) (λc9=>?_)
    ·have eb:zQ p=false:=by
      by_cases h:zQ p=true
      ·unfold zQ at h;simp only[b7,decide_eq_true_eq]at h;exact absurd (by rw[if_pos ⟨by simp[h.1.2],h.2⟩]) c9
      ·simpa using h
     refine T.aP (Rg.bg G G (aJ ?_));exact aM rfl rfl ⟨S.back,λh=>by(rw[eb]at h;cases h),λ_=>rfl⟩
    ·have e9:(p.2.2.1.length=(p.2.2.2.map kG).length/\Ej none p.2.2.1=true):=by
      by_cases h:(p.2.2.1.length=(p.2.2.2.map kG).length/\Ej none p.2.2.1=true)
      ·exact h
      ·exact absurd (by rw[if_neg h];decide) c9
     replace P3:=P3 e9.1 e9.2;refine aR (aN ?_);apply T.SH [0,1,3,4,6,2,5,7,8,9] 5 [2,3,4] 2 aE mixed
     ·simp+decide only[AH,uz,fe,zR,zN,zO,uj,fA,pB,List.idxOf_cons,cond_true,cond_false,Nat.reduceBEq,Nat.reduceAdd,beq_self_eq_true];rfl
     ·rfl
     ·rfl
     ·rfl
     ·rfl
     ·rfl
     ·rfl
     intro Eg V5;have dU:=V5 M;replace dF:=dF.le q0 dU.le;replace k9:=k9.le dU.le;replace gl:=dU.aB gl;replace hM:=dU.lt hM;have:=S.size;replace S:=S.ax dU;refine ar (M:=M) (A:=RT.pa) (B:=(RT.int .i64).sl) dq G G pb q0 (pa0) G G q0 Ub (by repeat (first|exact bI _ _|refine aX (bJ Ub) ?_)) (λTl MA=>?_);refine Rg.dm ?_;refine bP (M:=M) av G G G G G Ub (by repeat (first|exact bI _ _|refine aX (bJ Ub) ?_)) (λabi GO=>?_);replace GO:((RT.int .i64).sl).V M _ p.1 abi:=GO;refine Rg.dm ?_;refine ar (M:=M) (A:=RT.pa) (B:=(RT.int .i64).sl) dq G G pb q0 (pa1) G G q0 Ub (by repeat (first|exact bI _ _|refine aX (bJ Ub) ?_)) (λano WL=>?_);refine Rg.dm ?_;refine bP (M:=M) av G G G G G Ub (by repeat (first|exact bI _ _|refine aX (bJ Ub) ?_)) (λabj oI=>?_);replace oI:((RT.int .i64).sl).V M _ p.2.1 abj:=oI;refine Rg.dm (ab G G (Rg.dm (gm ?_)));obtain⟨bb,oo,cs,ee,fr,rfl,nr,_⟩:=WL.float;refine ⟨j1 ⟨jP dq G pb q0,⟨gD G nr (λh=>h),⟨rv,trivial⟩⟩⟩,?_⟩;have kp:=l9 aE Eg;refine aQ G G JQ (yP hM GO hV) (λv5 w5 hc=>?_);obtain⟨pF,s5⟩:=hc;replace oI:=oI.le s5.le;replace P3:=(P3.le q0 dU.le).le q0 s5.le;replace dF:=dF.le q0 s5.le;replace k9:=k9.le s5.le;replace gl:=s5.aB gl;replace hM:=s5.lt hM;have:=S.size;replace S:=S.ax s5;refine(fun(kp:fI _ _ _)=>ad ⟨G,G,λ_=>kp,?_⟩) a01
     refine aQ G G JQ (yP hM oI hV) (λv6 w6' hc=>?_);obtain⟨p9,TH⟩:=hc;replace dF:=dF.le q0 TH.le;replace k9:=k9.le TH.le;replace pF:=pF.le TH.le;replace oI:=oI.le TH.le;replace P3:=P3.le q0 TH.le;replace gl:=TH.aB gl;replace hM:=TH.lt hM;have:=S.size;replace S:=S.ax TH;refine(fun(kp:fI _ _ _)=>ad ⟨G,G,λ_=>kp,?_⟩) a01;refine dg (places:=[(0,1),(1,1),(2,1)]) Tryz.underlying215 aiv aiw rfl ⟨_,_,rfl,rfl,_,_,rfl,rfl,_,_,rfl,rfl,rfl⟩ (out:=[_,_,_]) ⟨0,[_],rfl,iO pF,by simp[Value.cells],1,[_],rfl,iO p9,by simp[Value.cells],2,[_],rfl,Ba P3,by simp[Value.cells],rfl⟩ (ad ⟨rfl,rfl,λh=>absurd rfl h,?_⟩);refine fD (A:=RT.se) (a:=GM p) G G hM (ag8 (x:=GM p) pF p9 P3) G (λu8 w8' hu8 RG _=>?_);replace dF:=dF.le q0 RG.le;replace k9:=k9.le RG.le;replace pF:=pF.le RG.le;replace oI:=oI.le RG.le;replace P3:=P3.le q0 RG.le;replace p9:=p9.le RG.le;replace gl:=RG.aB gl;replace hM:=RG.lt hM;have:=S.size;replace S:=S.ax RG;refine ad ⟨G,G,λh=>absurd G h,aF G G (ad ⟨G,G,λh=>absurd G h,rq (aJ ?_)⟩)⟩
     have eb:zQ p=true:=by
      unfold zQ;rw[decide_eq_true Ih,er,e9.2,decide_eq_true (by simpa using e9.1),ew.2 (λx hx=>by simp[qI x hx])];rfl
     exact aM rfl rfl ⟨S.back,λ_=>hu8,λh=>by(rw[eb]at h;cases h)⟩
theorem GP {M:aH} {p:Pa} {v0:Value} (w0:World) (hM:Lt M w0) (hv:RT.pa.V M w0 p v0) (hR:N6 p):
  Spec Tryz.prog 52 #[v0] w0 (λv w=>Step M w0 M w aE/\(zQ p=true->∃s,v= .tuple #[s,.int .i64 0]/\cR RT.se M w s (GM p))/\(zQ p=false->v= .tuple #[.pointer none,.int .i64 1])):=by
 refine a8 (args:=[_]) (fn:=Tryz.f52) Tryz.func52 G (n:=10) Tryz.ntmps52 ?_;have S:Step M w0 M w0 aE:=aV;refine T.aP ?_;refine fD (A:=RT.pa) G G hM hv G (λu0 w1 dF s0 _=>?_);replace hM:=s0.lt hM;have:=S.size;replace S:=S.ax s0;refine aF G G (Rg.bg G G (T.aP ?_));refine cv (A:=RT.pa) dq G RE q0 G G G dF cf (λv1 qH=>?_);refine aQ G G aix (GN _ hM qH hR) (λr1 w2 hc=>?_);obtain⟨s2,eZ,jB⟩:=hc
 obtain⟨o1,ho1⟩:∃o,r1= .pointer o:=by
  cases h:zQ p with
  |true=>obtain⟨b,o,_,h1,_⟩:=eZ h;exact⟨_,h1⟩
  |false=>exact⟨none,jB h⟩
 subst ho1;replace dF:=dF.le q0 s2.le;replace hM:=s2.lt hM;have:=S.size;replace S:=S.ax s2;refine Rg.bg G G (aN (T.aP (ab G G (Rg.HE Tryz.underlying31 G G G (ad ?_)))));refine bF G (λc2=>?_) (λc2=>?_)
 ·refine T.aP (aF G G (Rg.bg G G (aJ ?_)))
  have eb:zQ p=false:=by
   by_cases h:zQ p=true
   ·obtain⟨b,o,_,h1,_⟩:=eZ h;rw[c2]at h1;cases h1
   ·simpa using h
  exact eX rfl rfl rfl ⟨S.back,λh=>by(rw[eb]at h;cases h),λ_=>rfl⟩
 ·refine aR (T.aP (ab G G (aF G G (Rg.bg G G (aJ ?_)))))
  have eb:zQ p=true:=by
   by_cases h:zQ p=true
   ·exact h
   ·have:=jB a81;simp at this;exact absurd this c2
  exact eX rfl rfl rfl ⟨S.back,λ_=>⟨_,rfl,eZ eb⟩,λh=>by(rw[eb]at h;cases h)⟩
end Go.K
namespace Go.K
section
variable {P:Program} {r:Option Nat} {n:Nat} {L:Sl} {ds:List Deferred} {w:World} {K:Kt} {M:aH} {F:List (Nat×aH)}
def tJ (l:List Oper) (m q d:Nat):Bool:=
 Nat.blt q m&&mB l [q] m ((l[m]?.map cV).getD [])&&kL l (m+1)&&
 ((List.range' m (l.length-m)).all λj=>match l[j]? with
  |some o=>rI o.op&&(!(asks l o).contains d||(cV o).contains q)
  |none=>true)
theorem wh {l:List Oper} {m q d:Nat} (h:tJ l m q d=true):q<m/\mB l [q] m ((l[m]?.map cV).getD [])=true/\kL l (m+1)=true/\∀j o,m<=j->l[j]? =some o->rI o.op=true/\(d∈asks l o->q∈cV o):=by
 simp only[tJ,b7,Nat.blt_eq]at h;obtain⟨⟨⟨h1,h2⟩,h3⟩,h4⟩:=h;refine ⟨h1,h2,h3,λj o hj ho=> ?_⟩;have eK:=(al.1 ho).1;have:=ew.1 h4 j (List.mem_range'_1.2 ⟨hj,by omega⟩);rw[ho]at this;simp only[b7,Bool.or_eq_true,rr,fS]at this;refine ⟨this.1,λhd=> ?_⟩;rcases this.2 with h|h
 ·rw[<-Bool.not_eq_true,fS]at h;exact absurd hd h
 ·exact h
structure TJ (P:Program) (r:Option Nat) (n:Nat) (l:List Oper) (m q d:Nat) (c:Value) (Gs:List (Nat×Nat×(Value->Prop))) (L:Sl) (K:Kt) (ds:List Deferred) (D:Nat->Prop) (a:Act) (w:World) (p:Nat) (ac:Act) (Lp:Sl) (wq:World):Prop where
 p0:m<=p
 p1:p<=l.length
 dt:∀i,i<l.length->i≠q->(D i↔i<p)
 ag:iw n ac Lp ds
 tr:ux P r n l.toArray aE wq K 0 (l.drop p) Lp ds w
 yes:D q->a=ac
 no: ¬D q->ac=a.put (some d) c/\∀t u,(lk (jU l q L) t=some u->a.tmps[t]? =some u)
 fl: ¬D q->∀g∈Gs,∃v,a.tmps[g.2.1]? =some v/\g.2.2 v
theorem put_comm (a:Act) {d:Nat} {e:Option Nat} (h:e≠some d) (c v:Value):(a.put (some d) c).put e v=(a.put e v).put (some d) c:=by
 cases e with
 |none=>rfl
 |some e=>
  have fq:e≠d:=λh'=>h (by rw[h'])
  simp only[Act.put];congr 1;apply Array.ext_getElem?;intro i;simp only[dv,Array.size_setIfInBounds];by_cases h1:e=i<;>by_cases h2:d=i<;>simp_all
theorem Bc (a:Act) {d t:Nat} (c:Value) (h:t≠d):(a.put (some d) c).tmps[t]? =a.tmps[t]? :=by rw[gK,if_neg (λe=>h (by injection e with e;exact e.symm))]
theorem TJ.next {l:List Oper} {m q d:Nat} {c:Value} {Gs:List (Nat×Nat×(Value->Prop))} (hG:∀g∈Gs,∃o,l[g.1]? =some o/\o.dst=some g.2.1/\g.1<m) (dK:eY l 0=true) (eZ:tJ l m q d=true) {oq:Oper} (hq:l[q]? =some oq) (GQ:oq.dst=some d) (WM:jx oq.op=true) (RH:oq.guard=none)
  (ix:∀(ρ:Operand->Value) w,(∀x u,ev (jU l q L) x=some u->ρ x=u)->(∀g∈Gs,g.2.2 (ρ (.tmp g.2.1)))->(execOp ρ oq).run P w= .ok (.value c) w)
  {Q:Exit->Act->World->Prop} {D:Nat->Prop} {a:Act} {w:World} {j:Nat} {o:Oper} {rest:List Nat} (ho:l[j]? =some o) (nW: ¬D j) (hp:∀k∈cV o,D k) {p:Nat} {ac:Act} {Lp:Sl} {wq:World} (hi:TJ P r n l m q d c Gs L K ds D a w p ac Lp wq)
  (hk:∀a' w',(∃p ac Lp wq,TJ P r n l m q d c Gs L K ds (λi=>i=j\/D i) a' w' p ac Lp wq)->wpOpsIn (FW r) 0 P l.toArray Q rest a' w'):wpOpsIn (FW r) 0 P l.toArray Q (j::rest) a w:=by
 obtain⟨hqm,_,BG,sN⟩:=wh eZ;have o7:=(al.1 ho).1;by_cases hjq:j=q
 ·subst hjq;rw[hq]at ho;cases ho;obtain⟨Ij,kB⟩:=hi.no nW;refine One.run (by simpa using hq) WM (v:=c) ?_ (hk _ _ ⟨p,ac,Lp,wq,hi.p0,hi.p1,λi h1 h2=>⟨λh=>(hi.dt i h1 h2).1 (h.resolve_left h2),λh=> .inr ((hi.dt i h1 h2).2 h)⟩,hi.ag,hi.tr,λ_=>by rw[Ij,GQ],λh=>absurd (.inl rfl) h,λh=>absurd (.inl rfl) h⟩);unfold One;rw[if_pos (by simp[Region.wanted,RH])];refine ix a.eval w (λx u hx=>?_) (λg hg=>by obtain⟨v,h1,h2⟩:=hi.fl nW g hg;simpa[Act.eval,h1]using h2)
  cases x with
  |tmp t=>simp only[ev]at hx;simp[Act.eval,kB t u hx]
  |const v=>simp only[ev]at hx;cases hx;rfl
  |global g=>simp only[ev]at hx;cases hx;rfl
  |func f=>simp only[ev]at hx;cases hx;rfl
 ·have hjp:j=p:=by
   have h1:p<=j:=by
    rcases cK j p with h|h
    ·exact absurd ((hi.dt j o7 hjq).2 h) nW
    ·exact h
   have:=hi.p0;rcases cK m j with h|h
   ·have h2:=hp _ (lA BG (j:=j) hV ho);have:=(hi.dt (j-1) hV hV).1 h2;omega
   ·omega
  subst hjp;obtain⟨Y4,hta⟩:=sN j o hi.p0 ho;have BE:o.dst≠some d:=λh=>hjq (fH dK ho hq h GQ)
  have CI:∀t∈asks l o,a.tmps[t]? =ac.tmps[t]? :=λt ht=>by
   by_cases hD:D q
   ·rw[hi.yes hD]
   ·rw[(hi.no hD).1,Bc];rintro rfl;exact hD (hp q (hta ht))
  obtain⟨KF,sK⟩:=nq CI
  have hdf:a.defers=ac.defers:=by
   by_cases hD:D q
   ·rw[hi.yes hD]
   ·rw[(hi.no hD).1,put_defers]
  have AG:=hi.tr;rw[eR o7,(al.1 ho).2]at AG;have h1:=Rg.run AG ac hi.ag;refine C0 (by simpa using ho) Y4 KF sK hdf h1 (λe a w ⟨_,_,_,he,_⟩=>he) (λv w' ⟨L',o5,hA,_,Lh,_,UE⟩=>?_) (λd' w' ⟨L',o5,hA,_,Lh,_⟩=>?_)
  ·rw[Lh]at hA;refine hk _ _ ⟨j+1,ac.put o.dst v,L',wq,by have:=hi.p0;omega,by omega,λi h3 h4=>?_,hA,UE,λh=>?_,λh=>?_,λh g hg=>?_⟩
   ·constructor
    ·rintro(h|h)
     ·omega
     ·have:=(hi.dt i h3 h4).1 h;omega
    ·intro h;rcases pH (show i<=j by omega)with h5|h5
     ·exact .inl h5
     ·exact .inr ((hi.dt i h3 h4).2 h5)
   ·rw[hi.yes (h.resolve_left (λe=>hjq e.symm))]
   ·have hD: ¬D q:=λh'=>h (.inr h')
    obtain⟨Ij,kB⟩:=hi.no hD;refine ⟨by rw[Ij,put_comm a BE],λt u ht=> ?_⟩;obtain⟨h3,h4⟩:=jH (f:=kD l q) ht;rw[gK,if_neg,kB t u ht];intro e;simp only[kD,ew]at h3;have:=h3 o (ao ho);simp only[e,beq_self_eq_true,Bool.not_true,Bool.false_or,fS]at this;exact hD (hp q this)
   ·obtain⟨v',h1,h2⟩:=hi.fl (λh'=>h (.inr h')) g hg;obtain⟨og,g1,g2,g3⟩:=hG g hg;refine⟨v',?_,h2⟩;rw[gK,if_neg,h1];intro e;have:=fH dK ho g1 e g2;have:=hi.p0;omega
  ·have h3:=hA.defers;rw[put_defers,Lh]at h3;have h4:=congrArg List.length h3;rw[hi.ag.defers]at h4;simp at h4
theorem jg.WN {l:List Oper} {wd:World} (m q d:Nat) (c:Value) {oq:Oper} (F:List (Nat×aH)) (S:List (cj M)) (Gs:List (Nat×Nat×(Value->Prop))) (UC:S.length=m) (xH:Nat.blt m l.length=true) (dK:eY l 0=true) (eZ:tJ l m q d=true)
  (hq:l[q]? =some oq) (GQ:oq.dst=some d) (WM:jx oq.op=true) (RH:oq.guard=none) (hS:S[q]? =some (cj.eq c)) (ix:∀(ρ:Operand->Value) w,(∀x u,ev (jU l q L) x=some u->ρ x=u)->(∀g∈Gs,g.2.2 (ρ (.tmp g.2.1)))->(execOp ρ oq).run P w= .ok (.value c) w)
  (hG:∀g∈Gs,∃o s,l[g.1]? =some o/\o.dst=some g.2.1/\g.1<m/\g.1≠q/\S[g.1]? =some s/\∀v w,s.p v w->g.2.2 v) (pL:∀p∈F,∀b,p.2 b->M b) (hFq:∀p∈F,p.1≠q) (vM:CW F l S) (gI:bC P r n F wd l S ds L l S 0)
  (jV:∀w',Step M wd M w' (jt (F.map (·.2)))->ig w' (λacc=>ux P r n l.toArray aE w' K 0 (l.drop m) (acc++jU l l.length L) ds w') l S []):jg P r n l L ds wd K:=by
 intro a0 ha;obtain⟨hqm,Lj,BG,sN⟩:=wh eZ;have abk:m<l.length:=by simpa[Nat.blt_eq]using xH
 have start:∀(D:Nat->Prop) a w,(∀i,i<m->i≠q->D i)->(∀i,m<=i->i<l.length->¬D i)->(∀i o,l[i]? =some o->D i->∀k∈cV o,D k)->Inv F S l wd L ds n (λi=>D i/\i<l.length) a w->∃p ac Lp wq,TJ P r n l m q d c Gs L K ds D a w p ac Lp wq:=by
  intro D a w ie jB j2 hi
  obtain⟨ac,Ij⟩:∃ac,(D q->a=ac)/\(¬D q->ac=a.put (some d) c):=by
   by_cases hD:D q
   ·exact⟨a,λ_=>G,λh=>absurd hD h⟩
   ·exact⟨_,λh=>absurd h hD,λ_=>G⟩
  have hqn:d<n\/n<=d:=cK d n
  have mg:n<=ac.tmps.size:=by
   by_cases hD:D q
   ·rw[<-Ij.1 hD];exact hi.size
   ·rw[Ij.2 hD,nk];exact hi.size
  have hdf:ac.defers=ds:=by
   by_cases hD:D q
   ·rw[<-Ij.1 hD];exact hi.defers
   ·rw[Ij.2 hD,put_defers];exact hi.defers
  have Od:∀t,t≠d->ac.tmps[t]? =a.tmps[t]? :=λt ht=>by
   by_cases hD:D q
   ·rw[<-Ij.1 hD]
   ·rw[Ij.2 hD,Bc a c ht]
  have aiG:d<a.tmps.size:=by
   have hg:=gI.take.get q oq (by rw[dI,UC,if_pos hqm];exact hq);by_cases hD:D q
   ·obtain⟨v,h1,_⟩:=hi.done q oq (cj.eq c) d hq hS ⟨hD,by omega⟩ GQ;exact(Array.getElem?_eq_some_iff.1 h1).1
   ·refine Classical.byContradiction λBB=> ?_
    obtain⟨s,hs,abl⟩:=hg;rw[nd]at abl;rw[hS]at hs;cases hs
    have hpq:∀k∈cV oq,D k:=λk hk=>by
     have:=dA dK q oq hq k hk;exact ie k hV hV
    have:=Inv.next (r:=r) (P:=P) hi dK vM pL (rest:=[]) (Q:=λ_ a' _=>n<=a'.tmps.size/\∃v,a'.tmps[d]? =some v) ⟨cj.eq c,hS,abl⟩ hq (λh=>hD h.1) (λk hk=>⟨hpq k hk,by have:=dA dK q oq hq k hk;omega⟩) (λa' w' kz=>by
     obtain⟨v,h1,_⟩:=kz.done q oq (cj.eq c) d hq hS (.inl rfl) GQ;exact⟨kz.size,v,h1⟩)
    have pJ:One P r l.toArray w oq a c:=by
     unfold One;rw[if_pos (by simp[Region.wanted,RH])]
     refine ix a.eval w (λx u hx=>?_) (λg hg=>by
      obtain⟨o,s,g1,g2,g3,g4,g5,g6⟩:=hG g hg;obtain⟨v,h1,h2⟩:=hi.done _ o s _ g1 g5 ⟨ie _ g3 g4,by omega⟩ g2;simpa[Act.eval,h1]using g6 _ _ h2)
     have kB:∀t u,lk (jU l q L) t=some u->a.tmps[t]? =some u:=λt u ht=>by
      obtain⟨h3,h4⟩:=jH (f:=kD l q) ht;refine hi.base t u h4 λi o iK CK he=> ?_
      simp only[kD,ew]at h3;have:=h3 o (ao iK);simp only[he,beq_self_eq_true,Bool.not_true,Bool.false_or,fS]at this;exact hD (j2 i o iK CK.1 q this)
     cases x with
     |tmp t=>simp only[ev]at hx;simp[Act.eval,kB t u hx]
     |const v=>simp only[ev]at hx;cases hx;rfl
     |global g=>simp only[ev]at hx;cases hx;rfl
     |func f=>simp only[ev]at hx;cases hx;rfl
    simp only[wpOpsIn,ll,hq]at this;rw[if_pos (by simp[Region.wanted,RH])]at this;obtain⟨_,h2⟩:=this;unfold One at pJ;rw[if_pos (by simp[Region.wanted,RH])]at pJ;rw[Oper.semAt_eq _ _ _ (lD WM),pJ]at h2;rw[Oper.uponIn_value]at h2;obtain⟨_,v,h3⟩:=h2;rw[GQ]at h3;have:=(Array.getElem?_eq_some_iff.1 h3).1;simp[Act.put]at this;exact BB this
  have aiH:∃v,ac.tmps[d]? =some v/\v=c:=by
   by_cases hD:D q
   ·rw[<-Ij.1 hD];obtain⟨v,h1,h2⟩:=hi.done q oq (cj.eq c) d hq hS ⟨hD,by omega⟩ GQ;exact⟨v,h1,h2⟩
   ·refine⟨c,?_,G⟩;rw[Ij.2 hD,gK,if_pos rfl];simp[dv,aiG]
  have iy:∀{i:Nat} {o:Oper},(l.take m)[i]? =some o->l[i]? =some o/\i<m:=λ{i o} h=>by
   rw[dI]at h
   split at h
   ·exact⟨h,by assumption⟩
   ·cases h
  have kC:Step M wd M w (jt (F.map (·.2))):=hi.step.ek (λb ⟨p,hp,hD,hb⟩=>fG.2 ⟨p.2,cx.2 ⟨p,hp,rfl⟩,hb⟩) (λb hb=>by
   obtain⟨N,hN,CJ⟩:=fG.1 hb;obtain⟨p,hp,rfl⟩:=cx.1 hN;exact pL p hp b CJ)
  have hE:=(jV w kC).take;rw[UC]at hE
  obtain⟨acc,h1,h2⟩:=ig.use (a:=ac) (l.take m) S [] (λi o s h1 h2 h3=>by
    obtain⟨h4,h5⟩:=iy h1;by_cases TL:i=q
    ·subst TL;rw[hq]at h4;cases h4;rw[GQ]at h3;cases h3
    ·exact hi.fin i o s h4 h2 ⟨ie i h5 TL,by omega⟩ h3)
   (λi o s e h1 h2 h3=>by
    obtain⟨h4,h5⟩:=iy h1;by_cases TL:i=q
    ·subst TL;rw[hq]at h4;cases h4;rw[GQ]at h3;cases h3;rw[hS]at h2;cases h2;exact aiH
    ·obtain⟨v,h6,h7⟩:=hi.done i o s e h4 h2 ⟨ie i h5 TL,by omega⟩ h3;exact⟨v,by rw[Od e (λhe=>TL (fH dK h4 hq h3 (by rw[GQ,he])))];exact h6,h7⟩)
   (λt v h=>by simp[lk]at h) hE
  refine⟨m,ac,_,w,br _,by omega,λi h3 h4=>⟨λh=>?_,λh=>ie i h h4⟩,⟨mg,hdf,λt v h=>?_⟩,h1,Ij.1,λhD=>⟨Ij.2 hD,λt u ht=>?_⟩,λhD g hg=>by
   obtain⟨o,s,g1,g2,g3,g4,g5,g6⟩:=hG g hg;obtain⟨v,h1,h2⟩:=hi.done _ o s _ g1 g5 ⟨ie _ g3 g4,by omega⟩ g2;exact⟨v,h1,g6 _ _ h2⟩⟩
  ·rcases cK i m with h5|h5
   ·exact h5
   ·exact absurd h (jB i h5 h3)
  ·rcases k7 h with h|h
   ·exact h2 t v h
   ·obtain⟨h3,h4⟩:=jH (f:=kD l l.length) h
    have fq:∀(i:Nat) (o:Oper),l[i]? =some o->o.dst≠some t:=λi o iK he=>by
     simp only[kD,ew]at h3;have:=h3 o (ao iK);simp only[he,beq_self_eq_true,Bool.not_true,Bool.false_or,fS]at this;have h7:=dA dK i o iK _ this;have h8:=(al.1 iK).1;omega
    rw[Od t (λe=>fq q oq hq (by rw[GQ,e]))];exact hi.base t v h4 λi o iK _=>fq i o iK
  ·obtain⟨h3,h4⟩:=jH (f:=kD l q) ht;refine hi.base t u h4 λi o iK CK he=> ?_
   simp only[kD,ew]at h3;have:=h3 o (ao iK);simp only[he,beq_self_eq_true,Bool.not_true,Bool.false_or,fS]at this;exact hD (j2 i o iK CK.1 q this)
 refine⟨λD a w=>((∀i,m<=i->i<l.length->¬D i)/\Inv F S l wd L ds n (λi=>D i/\i<l.length) a w)\/∃p ac Lp wq,TJ P r n l m q d c Gs L K ds D a w p ac Lp wq,λD D' a w hJ hD=>?_,λQ D a w j o rest hj ho nW hp j2 hJ hk=>?_,λa w hJ=>?_,.inl ⟨λi _ _ h=>h,?_⟩⟩
 ·rcases hJ with⟨h1,h2⟩|⟨p,ac,Lp,wq,h⟩
  ·refine .inl ⟨λi h3 h4 h5=>h1 i h3 h4 ((hD i h4).1 h5),?_⟩;have:(λi=>D' i/\i<l.length)=λi=>D i/\i<l.length:=funext λi=>propext ⟨fun⟨h3,h4⟩=>⟨(hD i h4).1 h3,h4⟩,fun⟨h3,h4⟩=>⟨(hD i h4).2 h3,h4⟩⟩
   rw[this];exact h2
  ·exact .inr ⟨p,ac,Lp,wq,h.p0,h.p1,λi h3 h4=>(hD i h3).trans (h.dt i h3 h4),h.ag,h.tr,λh3=>h.yes ((hD q hV).1 h3),λh3=>h.no λh4=>h3 ((hD q hV).2 h4),λh3=>h.fl λh4=>h3 ((hD q hV).2 h4)⟩
 ·rcases hJ with⟨h1,h2⟩|⟨p,ac,Lp,wq,h⟩
  ·rcases cK j m with Fq|Fq
   ·have hg:=gI.take.get j o (by rw[dI,UC,if_pos Fq];exact ho);rw[nd]at hg;refine h2.next dK vM pL hg ho (λh=>nW h.1) (λk o8=>⟨hp k o8,by have:=dA dK j o ho k o8;omega⟩) λa' w' kz=>hk a' w' (.inl ⟨λi h3 h4 h5=>?_,?_⟩)
    ·rcases h5 with h5|h5
     ·omega
     ·exact h1 i h3 h4 h5
    ·have:(λi=>(i=j\/D i)/\i<l.length)=λi=>i=j\/D i/\i<l.length:=funext λi=>propext ⟨fun⟨h3,h4⟩=>h3.elim .inl λh=> .inr ⟨h,h4⟩,λh=>h.elim (λh=>⟨.inl h,by omega⟩) λh=>⟨.inr h.1,h.2⟩⟩
     rw[this];exact kz
   ·have aiI:j=m:=by
     rcases cK m j with h|h
     ·have:=hp _ (lA BG (j:=j) hV ho);exact absurd this (h1 (j-1) hV hV)
     ·omega
    subst aiI;rw[ho]at Lj;obtain⟨p,ac,Lp,wq,h⟩:=start D a w (λi hi TL=>mC (D:=D) j2 j (cV o) Lj hp i hi (by simpa using TL)) h1 j2 h2;exact h.next (λg hg=>by obtain⟨o,s,g1,g2,g3,_⟩:=hG g hg;exact⟨o,g1,g2,g3⟩) dK eZ hq GQ WM RH ix ho nW hp λa' w' h'=>hk a' w' (.inr h')
  ·exact h.next (λg hg=>by obtain⟨o,s,g1,g2,g3,_⟩:=hG g hg;exact⟨o,g1,g2,g3⟩) dK eZ hq GQ WM RH ix ho nW hp λa' w' h'=>hk a' w' (.inr h')
 ·rcases hJ with⟨h1,_⟩|⟨p,ac,Lp,wq,h⟩
  ·exact absurd abk (h1 m (br _) abk)
  ·have xg:p=l.length:=by
    rcases cK p l.length with h3|h3
    ·have h4:=(h.dt p h3 (by have:=h.p0;omega)).1 h3;omega
    ·have:=h.p1;omega
   have AG:=h.tr;rw[xg,List.drop_length]at AG;exact⟨Lp,ds,by rw[h.yes (by show q<l.length;omega)];exact h.ag,AG⟩
 ·refine⟨(Step.refl M wd).ek a18 (λb ⟨p,hp,_,hb⟩=>pL p hp b hb),λi o s _ _ h=>h.1.elim,ha.size,ha.defers,λi o s e _ _ h=>h.1.elim,λt v h _=>ha.at_ t v h,λi o _ h=>h.1.elim⟩
theorem T.TM {id:Nat} {l l':List Oper} (π:List Nat) (m q d:Nat) (c:Value) {oq:Oper} (F:List (Nat×aH)) (S:List (cj M)) (Gs:List (Nat×Nat×(Value->Prop))) (hm:P.follows .mixedOrders=true) (Ll:AH π l=l') (vQ:eY l 0=true) (hπ:lG π l.length=true) (UC:S.length=m) (xH:Nat.blt m l'.length=true) (dK:eY l' 0=true) (eZ:tJ l' m q d=true)
  (hq:l'[q]? =some oq) (GQ:oq.dst=some d) (WM:jx oq.op=true) (RH:oq.guard=none) (hS:S[q]? =some (cj.eq c)) (ix:∀(ρ:Operand->Value) w,(∀x u,ev (jU l' q L) x=some u->ρ x=u)->(∀g∈Gs,g.2.2 (ρ (.tmp g.2.1)))->(execOp ρ oq).run P w= .ok (.value c) w)
  (hG:∀g∈Gs,∃o s,l'[g.1]? =some o/\o.dst=some g.2.1/\g.1<m/\g.1≠q/\S[g.1]? =some s/\∀v w,s.p v w->g.2.2 v) (pL:∀p∈F,∀b,p.2 b->M b) (hFq:∀p∈F,p.1≠q) (vM:CW F l' S)
  (h:∀wD,(∀M,Step M w M wD aE)->bC P r n F wD l' S ds L l' S 0/\∀w',Step M wD M w' (jt (F.map (·.2)))->ig w' (λacc=>ux P r n l'.toArray aE w' K 0 (l'.drop m) (acc++jU l' l'.length L) ds w') l' S []):T P r n (.region id l.toArray true) L ds w K:=by
 subst Ll;exact jg.t hm vQ λwD hD=> .perm π hπ vQ (.WN m q d c F S Gs UC xH dK eZ hq GQ WM RH hS ix hG pL hFq vM (h wD hD).1 (h wD hD).2)
theorem GR {s:TypeId} {fs:Array Field} {fd:Field} {j size o o' b:Nat} {zv:Value} {bytes:Nat} {x:Operand} {dst:Option Tmp} {ty:TypeId} {pos:String} {af:Array Edge} {gd:Option (Nat×Bool)} (hu:P.underlying s=some (.struct fs)) (Un:fs[j]? =some fd) (ho:o+fd.offset=o') (hi:TI P fd.type zv size bytes) (hs:size≠0)
  {ρ:Operand->Value} (hx:ρ x= .pointer (some ⟨b,o,none⟩)) (w:World):(execOp ρ {dst,op:= .fieldAddr s x j,type:=ty,pos,after:=af,guard:=gd}).run P w= .ok (.value (.pointer (some ⟨b,o',none⟩))) w:=by
 simp only[execOp,hx];simp[Instr.fieldAt,run_underlying hu,Un,Instr.sureAddr,fieldPlace,hi.sizeOf,hs,<-ho,Addr.add_mid]
end
open Go.Proofs
set_option maxRecDepth 10000
def mJ:Int->List En->Int
 |last,[]=>last
 |_,e::L=>mJ e.2 L
def wo:Int->List En->Bool
 |_,[]=>true
 |last,e::L=>decide (mq last e=0)&&wo e.2 L
theorem Oe:∀{L:List En} {last:Int} {i:Nat} {e:En},wo last L=true->L[i]? =some e->mq (mJ last (L.take i)) e=0/\mJ last (L.take (i+1))=e.2
 |[],_,_,_,_,h=>by simp at h
 |x::L,last,0,e,h,hi=>by
  simp only[wo,b7,decide_eq_true_eq]at h;simp at hi;subst hi;exact⟨by simpa[mJ]using h.1,by simp[mJ]⟩
 |x::L,last,i+1,e,h,hi=>by
  simp only[wo,b7,decide_eq_true_eq]at h;have:=Oe h.2 ae4;simpa[mJ]using this
theorem vm {last:Int} {e:En} (h:mq last e=0):iC e.1/\last<e.2:=by
 unfold mq at h
 split at h
 ·rename_i h1;exact absurd h h1
 ·rename_i h1
  split at h
  ·cases h
  ·exact⟨H2 (by simpa using h1),by omega⟩
theorem lY:∀{L:List En} {last:Int},wo last L=true->∀e∈L,iC e.1
 |[],_,_,e,h=>by cases h
 |x::L,last,h,e,he=>by
  simp only[wo,b7,decide_eq_true_eq]at h;rcases cY.1 he with rfl|he
  ·exact(vm h.1).1
  ·exact lY h.2 e he
theorem Bd:∀{L:List En} {last:Int},wo last L=true->fT last (L.map (·.2))=true
 |[],_,_=>rfl
 |x::L,last,h=>by
  simp only[wo,b7,decide_eq_true_eq]at h;simp only[fe,fT,b7,decide_eq_true_eq];exact⟨(vm h.1).2,Bd h.2⟩
def ju (L:List En):Pa:=(L.map (·.1.1),L.map (·.2),keysOf L,(keysOf L).map (pk L))
theorem JY {x:List Po} (h:x≠[]):∃p∈x,Eu x=p.1:=by
 unfold Eu
 cases hl:x.getLast? with
 |none=>exact absurd (List.getLast?_eq_none_iff.1 hl) h
 |some p=>exact⟨p,List.mem_of_getLast? hl,rfl⟩
theorem WO {L:List En} (h:wo (-1) L=true) (hn:L.length<=1000000):zQ (ju L)=true:=by
 have hF:=lY h;have h1:(keysOf L).map (pk L)=(ju L).2.2.2:=rfl;unfold zQ;have e1:decide ((ju L).1.length=(ju L).2.1.length)=true:=by simp[ju]
 have e2:fT (-1) (ju L).2.1=true:=Bd h;have e3:decide ((ju L).2.2.1.length=(ju L).2.2.2.length)=true:=by simp[ju]
 have e4:Ej none (ju L).2.2.1=true:=Wl (oC L)
 have e5:(ju L).2.2.2.all (λx=> !mQ ((ju L).1.length:Int) x)=true:=by
  refine ew.2 λx hx=> ?_
  rw[<-h1]at hx;obtain⟨k,hk,rfl⟩:=cx.1 hx;have fq:pk L k≠[]:=M8 0 (lU.1 hk)
  have aiJ:(pk L k).isEmpty=false:=by
   cases h:pk L k with
   |nil=>exact absurd h fq
   |cons a b=>rfl
  have tD:ez (-1) (pk L k)=true:=xn k L 0 (-1) hF hV hV;obtain⟨p,hp,hl⟩:=JY fq;have:=(uU k L 0 hF).2 p hp;have hlen:((ju L).1.length:Int)=L.length:=by simp[ju]
  simp only[mQ,tD,aiJ,hlen,hl];rw[decide_eq_false hV];rfl
 rw[e1,e2,e3,e4,e5];rfl
theorem RI {L:List En} (hF:∀e∈L,iC e.1) (hn:L.length<=1000000) (k:List UInt8):Room (pk L k):=by
 have h1:=uU k L 0 hF;have tD:ez (-1) (pk L k)=true:=xn k L 0 (-1) hF hV hV;have rB:∀p∈pk L k,p.2.length<=500:=λp hp=>(h1.2 p hp).2.2
 obtain⟨h2,h3⟩:=uV (pk L k) (-1) 500 hV tD rB hV;have hl:(pk L k).length<=L.length:=h1.1;exact⟨λp hp=>by have:=rB p hp;omega,by omega,by omega,by omega⟩
theorem RJ {L:List En} (hF:∀e∈L,iC e.1) (hn:L.length<=1000000):N6 (ju L):=by
 have hk:(keysOf L).length<=500000000:=by
  have h1:=(oC L).nodup.length_le_of_subset (l₂:=jo L) (λx hx=>lU.1 hx);have:=uW hF;omega
 refine ⟨by simp[ju];omega,by simp[ju];omega,by simp only[ju];omega,by simp[ju];omega,λx hx=> ?_⟩;obtain⟨k,_,rfl⟩:=cx.1 hx;exact RI hF hn k
theorem WQ {M:aH} {w:World} {e:En} {v:Value} (h:RT.en.V M w e v):(-9223372036854775808<=e.1.1/\e.1.1<=9223372036854775807)/\ -9223372036854775808<=e.2/\e.2<=9223372036854775807:=by
 obtain⟨vs,⟨va,vb,_,⟨vc,vd,_,⟨_,h1⟩,_⟩,⟨_,h2⟩⟩,_⟩:=h;exact⟨h1,h2⟩
def ZP (B b:Nat) (vi vs:Value):aH:=λk=>B<=k/\k≠b/\vi.ownBlock≠some k/\vs.ownBlock≠some k
theorem Own.TN {κ:IntKind} {e:TypeId} {M M' N:aH} {w w':World} {base:Nat} {v:Value} {xs:List Int} (h:Own (RT.int κ) e (qG v) w base v xs) (s:Step M w M' w' N) (hn:∀c,v.ownBlock=some c->¬N c):Own (RT.int κ) e (qG v) w' base v xs:=
 ((h.QG (M':=allM) (λ_ _=>trivial)).Zh s.all hn).lone
theorem Step.aiK {M M' N:aH} {w w':World} (s:Step M w M' w' N) {v:Value} (hv:∀b,v.ownBlock=some b->b<w'.heap.size/\(w.heap.size<=b\/M' b)):Step M w (lx M' v) w' N:=
 ⟨λh k hk=>hk.elim (λh1=>(hv k h1).1) (λh1=>s.lt h k h1),s.os,s.tape,s.output,s.size,λk hk=>⟨λh=>by
  rcases h with h|h
  ·rcases(hv k h).2 with h1|h1
   ·omega
   ·exact(s.mem k hk).1 h1
  ·exact(s.mem k hk).1 h,λh=> .inr ((s.mem k hk).2 h)⟩,s.same,s.sub⟩
namespace TKSegA
theorem abm:Enters Tryz.prog 159:=enters Tryz.func159 rfl q0
theorem abn:Enters Tryz.prog 160:=enters Tryz.func160 rfl q0
theorem abo:Enters Tryz.prog 201:=enters Tryz.func201 rfl q0
end TKSegA
open TKSegA
set_option maxRecDepth 10000
theorem JZ {M:aH} {s:Se} {v0:Value} (w0:World) (hs:cR RT.se M w0 v0 s):
  Spec Tryz.prog 108 #[v0] w0 (λv w=>v= .int .i64 (s.1.length:Int)/\w=w0):=by
 refine a8 (args:=[_]) (fn:=Tryz.f108) Tryz.func108 G (n:=8) Tryz.ntmps108 (T.aP (Rg.bg G G (T.aP (ab G G (aW G hs.kR G ?_)))));refine ar (A:=RT.se) (B:=(RT.int .i64).sl) Tryz.underlying215 G G pb q0 se0 G G q0 hs cf (λVZ Ea=>?_);refine bP av G G G G G Ea cf (λabp Ik=>?_);replace Ik:((RT.int .i64).sl).V M _ s.1 abp:=Ik;refine bN av G Ik G (Rg.bg G G (aJ ?_));exact ai8
theorem y5 {α:Type} {p:α->Bool}:∀{xs:List α} {i:Nat},i<=xs.length->(∀(k:Nat) x,k<i->xs[k]? =some x->p x=true)->(∀(k:Nat) x,i<=k->xs[k]? =some x->p x=false)->xs.countP p=i
 |[],i,hi,_,_=>by simp at hi;simp[hi]
 |x::xs,0,_,_,h2=>by
  rw[List.countP_eq_zero.2];intro a ha;obtain⟨k,hk⟩:=bO.1 ha;simp[h2 k a (bm _) hk]
 |x::xs,i+1,hi,h1,h2=>by
  rw[List.countP_cons_of_pos (h1 0 x hV rfl),y5 ae4 (λk y hk hy=>h1 (k+1) y hV (by simpa using hy)) (λk y hk hy=>h2 (k+1) y hV (by simpa using hy))]
end Go.K
namespace Go.K
open Go.Proofs
namespace TKSegB
theorem JW:TI Tryz.prog 249 (.slice none 0 0) 1 24:=by unfold TI;kernel_rfl
theorem aiL:Enters Tryz.prog 271:=enters Tryz.func271 rfl q0
theorem aiM:Enters Tryz.prog 301:=enters Tryz.func301 rfl q0
theorem aiN:Enters Tryz.prog 302:=enters Tryz.func302 rfl q0
end TKSegB
open TKSegB
set_option maxRecDepth 10000
def KQ (ns:List (List UInt8)) (k:List UInt8):Nat:=ns.countP λx=>decide (x<k)
theorem abq {ns:List (List UInt8)} (h:Gm ns) {i j:Nat} {x y:List UInt8} (jf:i<=j) (hx:ns[i]? =some x) (hy:ns[j]? =some y): ¬y<x:=by
 rcases pH jf with rfl|h1
 ·rw[hx]at hy;cases hy;exact jZ x
 ·exact j0 (hU h hx hy h1)
theorem Cn {ns:List (List UInt8)} (h:Gm ns) {k:List UInt8}:(k∈ns->ns[KQ ns k]? =some k)/\∀x,ns[KQ ns k]? =some x->¬x<k:=by
 have key:∀{ns:List (List UInt8)},Gm ns->(k∈ns->ns[KQ ns k]? =some k)/\∀x,ns[KQ ns k]? =some x->¬x<k:=by
  intro ns
  induction ns with
  |nil=>exact λ_=>⟨(λh=>by cases h),λx h=>by simp at h⟩
  |cons y ns ih=>
   intro h;have h':=jr.1 h;by_cases hy:y<k
   ·have e:KQ (y::ns) k=KQ ns k+1:=by unfold KQ;rw[List.countP_cons_of_pos (by simpa using hy)]
    rw[e];simp only[List.getElem?_cons_succ];refine⟨λhk=>(ih h'.2).1 ?_,(ih h'.2).2⟩;rcases cY.1 hk with rfl|hk
    ·exact absurd hy (jZ _)
    ·exact hk
   ·have ie:∀x∈ns,¬x<k:=λx hx eK=>hy (nK (h'.1 x hx) eK)
    have e:KQ (y::ns) k=0:=by
     unfold KQ;rw[List.countP_eq_zero];intro a ha;rcases cY.1 ha with rfl|ha
     ·simpa using hy
     ·simpa using ie a ha
    rw[e];refine⟨λhk=>?_,λx hx=>by simp at hx;subst hx;exact hy⟩;rcases cY.1 hk with rfl|hk
    ·rfl
    ·exact absurd (h'.1 k hk) hy
 exact key h
def geN (ns:List (List UInt8)) (k:List UInt8) (i:Nat):Bool:=match ns[i]? with|some x=> !decide (x<k)|none=>true
theorem y6 {ns:List (List UInt8)} {k x:List UInt8} {i:Nat} (h:ns[i]? =some x):geN ns k i= !decide (x<k):=by unfold geN;rw[h]
theorem Of {ns:List (List UInt8)} (h:Gm ns) {k:List UInt8}:ns[KQ ns k]? =some k↔k∈ns:=⟨λh=>ao h,(Cn h).1⟩
theorem GS {M:aH} {n:Nat} {g:FuncId} {cap:List Value} {good:Nat->Bool} (w0:World) (hg:Enters Tryz.prog g) (TO:∀i j,i<=j->j<n->good i=true->good j=true) (hn:n<=4611686018427387904) (ht:∀(i:Nat) w,i<n->Step M w0 M w aE->Spec Tryz.prog g ([.int .i64 (i:Int)]++cap:List Value).toArray w (λv w'=>v= .bool (good i)/\Step M w M w' aE)):
  Spec Tryz.prog 301 #[.int .i64 (n:Int),.func (.func g) #[] cap.toArray] w0 (λv w=>∃m:Nat,v= .int .i64 (m:Int)/\m<=n/\(∀i,i<m->good i=false)/\(∀i,m<=i->i<n->good i=true)/\Step M w0 M w aE):=by
 refine a8 (args:=[_,_]) (fn:=Tryz.f301) Tryz.func301 G (n:=23) Tryz.ntmps301 (T.aP (Rg.bg G G (T.aP (Rg.bg G G (aN (aY ?_))))));refine dz (σ:=Nat×Nat) (λq=>[(0,.int .i64 (q.2:Int)),(1,.func (.func g) #[] cap.toArray),(5,.int .i64 (q.1:Int))]) (λq w=>Step M w0 M w aE/\q.1<=q.2/\q.2<=n/\(∀i,i<q.1->good i=false)/\(∀i,q.2<=i->i<n->good i=true)) (λq=>q.2-q.1) (0,n) a09 ?_ ?_
 ·exact⟨aV,bm _,br _,λi h=>absurd h (fB _),λi h h'=>by omega⟩
 ·rintro⟨i,j⟩ w ⟨S,jf,hj,h1,h2⟩;dsimp only at jf hj h1 h2 ⊢;refine aN (T.aP (ab G G (ab G G (cy G G G (ad ?_)))));refine bF G (λc2=>?_) (λc2=>?_)
  ·refine aR (aY (T.aP (ab G G (ab G G (ab G G (jw G G G hV (Rg.xG G G G hV (bB G G G hV (bh (v':= .int .i64 ((i+(j-i)/2:Nat):Int)) (congrArg _ hV) (aF G G ?_))))))))));refine ad (T.aP (ab G G (ab G G ?_)));refine uk (first:=[]) (captured:=cap) (xs:=[.tmp 17]) G G G hg (vs:=[.int .i64 ((i+(j-i)/2:Nat):Int)]) (ht (i+(j-i)/2) _ hV S) (λr4 w4 hc=>?_);obtain⟨rfl,s4⟩:=hc;refine bh (v':= .bool (decide (good (i+(j-i)/2)=true))) (by simp) ?_;replace S:=S.ax s4;refine ad ?_;refine bF G (λc4=>?_) (λc4=>?_)
   ·refine aL (ab G G (Rg.bg G G ?_));refine⟨G,(i,i+(j-i)/2),a09,?_,?_⟩
    ·exact⟨S,by dsimp only;omega,by dsimp only;omega,h1,λk hk Ys=>TO _ _ hk Ys c4⟩
    ·dsimp only;omega
   ·refine aL (ab G G (bB G G G hV (Rg.bg G G ?_)));refine⟨G,(i+(j-i)/2+1,j),a09,?_,?_⟩
    ·exact⟨S,by dsimp only;omega,hj,λk hk=>by
      cases h:good k with
      |false=>rfl
      |true=>exact absurd (TO k (i+(j-i)/2) (by dsimp only at hk;omega) hV h) c4,h2⟩
    ·dsimp only;omega
  ·refine cQ (T.aP (ab G G (Rg.bg G G (aJ ?_))));have e:i=j:=by omega
   subst e;exact aM G G ⟨i,G,hj,h1,h2,S⟩
theorem Ew {M:aH} {d:Di} {v0:Value} {i bd bk:Nat} {k x:List UInt8} (w0:World) (hd:cR RT.di M w0 v0 d) (gd:w0.heap[bd]? =some (.cells #[v0] 213 (0,0))) (gk:w0.heap[bk]? =some (.cells #[sv k] 9 (0,0))) (hx:d.1[i]? =some x):
  Spec Tryz.prog 302 #[.int .i64 (i:Int),.pointer (some ⟨bd,0,none⟩),.pointer (some ⟨bk,0,none⟩)] w0 (λv w=>v= .bool (!decide (x<k))/\Step M w0 M w aE):=by
 have hM:True:=trivial;refine a8 (args:=[_,_,_]) (fn:=Tryz.f302) Tryz.func302 G (n:=14) Tryz.ntmps302 (T.aP (Rg.bg G G (aN ?_)));apply um mixed rfl rfl;intro Jp L4;have lN:=L4 M;replace gd:=lN.aB gd;replace gk:=lN.aB gk;replace hd:=hd.le q0 lN.le;refine aG Tryz.underlying213 G G G gd G (bh (v':=v0) G (Rg.dm (aW G hd.kR G (Rg.dm ?_))));refine ar (A:=RT.di) (B:=RT.str.sl) Tryz.underlying310 G G vS q0 di0 G G q0 hd cf (λpn RL=>?_);refine Rg.dm ?_;refine bP aD G G G G G RL cf (λvn xj=>?_);replace xj:(RT.str.sl).V M _ d.1 vn:=xj;refine Rg.dm (ab G G (Rg.dm ?_));have qE:=(al.1 hx).1;refine cD aD I9 G G G xj cf hV (λu a hg hu=>?_);obtain rfl:x=a:=aK (hx.symm.trans (by simpa using hg));refine Rg.dm ?_;refine bP aA G G G G G hu cf (λvx yz=>?_);obtain rfl:=ep yz;refine Rg.dm (aG aA G G G gk G (bh (v':=sv k) G (Rg.dm (Rg.VU G G G (Rg.dm (aF G G (Rg.dm (gm (aJ ?_)))))))));exact aM rfl rfl ⟨by rw[decide_not],lN⟩
theorem GU {M:aH} {d:Di} {v0:Value} {k:List UInt8} (w0:World) (hM:Lt M w0) (hd:cR RT.di M w0 v0 d) (Og:Gm d.1):
  Spec Tryz.prog 271 #[v0,sv k] w0 (λv w=>v= .tuple #[.int .i64 (KQ d.1 k:Int),.bool (decide (k∈d.1))]/\Step M w0 M w aE):=by
 refine a8 (args:=[_,_]) (fn:=Tryz.f271) Tryz.func271 G (n:=33) Tryz.ntmps271 ?_;have S:Step M w0 M w0 aE:=aV;refine T.aP ?_;refine o2 M G G (λRM aiP arM arN qK RN=>?_);replace qK:aiP.heap[RM]? =some (.cells #[v0] 213 (0,0)):=by rw[Ba hd]at qK;exact qK
 obtain⟨Oh,Oi⟩:∃M',M'=ins M RM:=⟨_,rfl⟩;rw[<-Oi]at RN;have vq:Oh RM:=by rw[Oi];exact .inl G
 replace hd:=hd.le q0 RN.le;replace hM:=RN.lt hM;have:=S.size;replace S:=S.ax RN;refine o2 Oh G G (λfW rX F8 F9 cw ib=>?_);obtain⟨eU,gr⟩:∃M',M'=ins Oh fW:=⟨_,rfl⟩;rw[<-gr]at ib;have bV:eU fW:=by rw[gr];exact .inl G
 change rX.heap[fW]? =some (.cells #[sv k] _ _)at cw;have:=ae qK;replace vq:=(ib.mem _ this).2 vq;replace qK:=ib.aB qK;replace hd:=hd.le q0 ib.le;replace hM:=ib.lt hM;have:=S.size;replace S:=S.ax ib;refine aF G G (Rg.bg G G (T.aP (aG Tryz.underlying213 G G G qK G (bh (v':=v0) G (aW G hd.kR G ?_)))));refine ar (A:=RT.di) (B:=RT.str.sl) Tryz.underlying310 G G vS q0 di0 G G q0 hd cf (λpn RL=>?_);refine bP aD G G G G G RL cf (λvn xj=>?_);replace xj:(RT.str.sl).V eU _ d.1 vn:=xj;have Yo:=dQ xj;refine bN aD G xj G (jd (xs:=[]) (ys:=[.tmp 2,.tmp 3]) G G G ?_)
 refine aQ G G aiM (GS (M:=eU) (n:=d.1.length) (cap:=[.pointer (some ⟨RM,0,none⟩),.pointer (some ⟨fW,0,none⟩)]) (good:=geN d.1 k) _ aiN (λi j jf hj h=>by
  have hi:=an (show i<d.1.length by omega);have vP:=an hj;rw[y6 hi]at h;rw[y6 vP];simp only[rr,decide_eq_false_iff_not]at h ⊢;intro eK;rcases mH d.1[i] d.1[j]with h1|h1|h1
  ·exact h (nK h1 eK)
  ·rw[h1]at h;exact h eK
  ·exact abq Og jf hi vP h1) hV (λi w hi s=>by
  have hx:=an hi;rw[y6 hx];exact Ew w (hd.le q0 s.le) (s.aB qK) (s.aB cw) hx)) (λr1 w1 hc=>?_)
 obtain⟨m,rfl,hm,Yj,Zb,s1⟩:=hc;have em:KQ d.1 k=m:=y5 hm (λi x hi hx=>by have:=Yj i hi;rw[y6 hx]at this;simpa using this) (λi x hi hx=>by have:=Zb i hi (al.1 hx).1;rw[y6 hx]at this;simpa using this);have:=ae qK;replace vq:=(s1.mem _ this).2 vq;replace qK:=s1.aB qK;have:=ae cw;replace bV:=(s1.mem _ this).2 bV;replace cw:=s1.aB cw;replace hd:=hd.le q0 s1.le;replace hM:=s1.lt hM;have:=S.size;replace S:=S.ax s1;refine Rg.bg G G (aN ?_);apply um mixed rfl rfl;intro wD2 sA2;have WR:=sA2 eU;have:=ae qK;replace vq:=(WR.mem _ this).2 vq;replace qK:=WR.aB qK;have:=ae cw;replace bV:=(WR.mem _ this).2 bV;replace cw:=WR.aB cw;replace hd:=hd.le q0 WR.le;replace hM:=WR.lt hM;have:=S.size;replace S:=S.ax WR;refine ab G G (Rg.dm (ab G G (Rg.dm (aG Tryz.underlying213 G G G qK G (bh (v':=v0) G (Rg.dm (aW G hd.kR G (Rg.dm ?_))))))));refine ar (A:=RT.di) (B:=RT.str.sl) Tryz.underlying310 G G vS q0 di0 G G q0 hd cf (λpn2 aiQ=>?_);refine Rg.dm ?_;refine bP aD G G G G G aiQ cf (λvn2 WS=>?_);replace WS:(RT.str.sl).V eU _ d.1 vn2:=WS;refine Rg.dm (bN aD G WS G (Rg.dm (cy G G G (Rg.dm (ab G G (Rg.dm ?_))))));refine aO (g:=22) G (λWT=>?_) (λWT=>?_)
 ·refine ah G G (aG Tryz.underlying213 G G G qK G (bh (v':=v0) G (Rg.dm (ah G G (aW G hd.kR G (Rg.dm (ah G G ?_)))))));refine ar (A:=RT.di) (B:=RT.str.sl) Tryz.underlying310 G G vS q0 di0 G G q0 hd cf (λpn3 aiR=>?_);refine Rg.dm (ah G G ?_);refine bP aD G G G G G aiR cf (λvn3 WU=>?_);replace WU:(RT.str.sl).V eU _ d.1 vn3:=WU;refine Rg.dm (ah G G (ab G G (Rg.dm (ah G G ?_))));refine cD aD I9 G G G WU cf hV (λu2 x hg2 eS=>?_);rw[aw]at hg2;refine Rg.dm (ah G G ?_);refine bP aA G G G G G eS cf (λvx yz=>?_);obtain rfl:=ep yz;refine Rg.dm (ah G G (aG aA G G G cw G (bh (v':=sv k) G (Rg.dm (ah G G (Rg.CS G G G (Rg.dm (aU G G G (Rg.dm (aF G G (Rg.dm ?_)))))))))));refine aF G G (Rg.dm (gm (aJ ?_)));rw[<-em]at*
  first
  |(have e:decide (x=k)=decide (k∈d.1):=decide_eq_decide.2 (by rw[<-Of Og,hg2];simp)
    exact eX rfl rfl rfl ⟨by rw[e],S.back⟩)
  |(have e:k∉d.1:=λh=>by have:=(Cn Og).1 h;have:=(al.1 this).1;omega
    exact eX rfl rfl rfl ⟨by rw[decide_eq_false e],S.back⟩)
 ·refine aj G G G G (Rg.dm (aj G G G G (Rg.dm (aj G G G G (Rg.dm (aj G G G G (Rg.dm (aj G G G G (Rg.dm (aj G G G G (Rg.dm ?_)))))))))));refine aj G G G G (Rg.dm (aj G G G G (Rg.dm (aj G G G G (Rg.dm (az G G G (Rg.dm (aF G G (Rg.dm (aF G G (Rg.dm ?_)))))))))));refine gm (aJ ?_);rw[<-em]at*
  first
  |(have e:decide (x=k)=decide (k∈d.1):=decide_eq_decide.2 (by rw[<-Of Og,hg2];simp)
    exact eX rfl rfl rfl ⟨by rw[e],S.back⟩)
  |(have e:k∉d.1:=λh=>by have:=(Cn Og).1 h;have:=(al.1 this).1;omega
    exact eX rfl rfl rfl ⟨by rw[decide_eq_false e],S.back⟩)
theorem find_spec {M:aH} {d:Di} {v0:Value} {k:List UInt8} (w0:World) (hM:Lt M w0) (hd:cR RT.di M w0 v0 d) (Og:Gm d.1) (hl:d.1.length=d.2.length):
  Spec Tryz.prog 218 #[v0,sv k] w0 (λv w=>Step M w0 M w aE/\((∃(j:Nat) (p:Value) (t:Li),v= .tuple #[p,.bool true]/\d.1[j]? =some k/\d.2[j]? =some t/\cR RT.li M w p t)\/(v= .tuple #[.pointer none,.bool false]/\k∉d.1))):=by
 refine a8 (args:=[_,_]) (fn:=Tryz.f218) Tryz.func218 G (n:=25) Tryz.ntmps218 ?_;have S:Step M w0 M w0 aE:=aV;refine T.aP (aF G G (Rg.bg G G (T.aP (ab G G (ab G G ?_)))));refine aQ G G aiL (GU _ hM hd Og) (λr1 w1 hc=>?_);obtain⟨rfl,s1⟩:=hc;replace hd:=hd.le q0 s1.le;replace hM:=s1.lt hM;have:=S.size;replace S:=S.ax s1;refine ab G G (cq G G G (cq G G G (aF G G (Rg.bg G G (aN (T.aP (ab G G (iv G G (bh (v':= .bool (decide (k∉d.1))) (by simp) ?_)))))))));refine ad ?_;refine bF G (λc2=>?_) (λc2=>?_)
 ·refine T.aP (Rg.bg G G (T.aP (ab G G (aF G G (Rg.bg G G (aJ ?_))))));exact eX G G G ⟨S,.inr ⟨G,c2⟩⟩
 ·refine aR (T.aP (ab G G (aW G hd.kR G ?_)));refine ar (A:=RT.di) (B:=((RT.li).ptr).sl) Tryz.underlying310 G G JW q0 di1 G G q0 hd cf (λpt hpt=>?_);refine bP fa G G G G G hpt cf (λvt hvt=>?_);replace hvt:(((RT.li).ptr).sl).V M _ d.2 vt:=hvt;refine ab G G ?_;have hk:=(Cn Og).1 (cr.1 c2);have Fs:=(al.1 hk).1;refine cD fa rO G G G hvt cf hV (λu5 t Jo wL=>?_);rw[aw]at Jo;refine bP dL G G G G G wL cf (λvp hvp=>?_);have aiT:=H5.1 hvp;refine aF G G (Rg.bg G G (aJ ?_));exact eX G G G ⟨S,.inl ⟨_,_,t,G,hk,Jo,aiT⟩⟩
end Go.K
namespace Go.K
open Go.Proofs
set_option maxRecDepth 10000
def RO (ns:List (List UInt8)) (ls:List (List Po)) (k:List UInt8):List Po:=match (ns.zip ls).find? (λp=>decide (p.1=k))with|some p=>p.2|none=>[]
theorem Oj {ns:List (List UInt8)} (hn:ns.Nodup) {ls:List (List Po)} {k:List UInt8} {j:Nat} {l:List Po} (h:ns[j]? =some k) (hl:ls[j]? =some l):RO ns ls k=l:=by
 have:∀{ns:List (List UInt8)} {ls:List (List Po)} {j:Nat},ns.Nodup->ns[j]? =some k->ls[j]? =some l->(ns.zip ls).find? (λp=>decide (p.1=k))=some (k,l):=by
  intro ns
  induction ns with
  |nil=>intro ls j _ h;simp at h
  |cons x ns ih=>
   intro ls j hn h hl
   cases ls with
   |nil=>simp at hl
   |cons y ls=>
    cases j with
    |zero=>simp at h hl;subst h;subst hl;simp
    |succ j=>
     have SS:=List.nodup_cons.1 hn;have hk:k∈ns:=ao a81;have hx:x≠k:=λe=>SS.1 (by rw[e];exact hk)
     rw[List.zip_cons_cons,List.find?_cons_of_neg ad1];exact ih SS.2 a81 (by simpa using hl)
 unfold RO;rw[this hn h hl]
theorem Ex {ns:List (List UInt8)} {ls:List (List Po)} {k:List UInt8} (h:k∉ns):RO ns ls k=[]:=by
 unfold RO;rw[List.find?_eq_none.2 λp hp=>by have:=List.of_mem_zip hp;simp;intro e;exact h (e▸this.1)]
theorem Ol {L:List En} (k:List UInt8):RO (keysOf L) ((keysOf L).map (pk L)) k=pk L k:=by
 by_cases h:k∈keysOf L
 ·obtain⟨j,hj⟩:=bO.1 h;exact Oj (oC L).nodup hj (by rw[eN,hj];rfl)
 ·rw[Ex h];exact(H4 0 (λh'=>h (lU.2 h'))).symm
def wu (d:Di) (k:List UInt8) (M:aH) (v:Value) (w:World):Prop:=(∃(j:Nat) (t:Li),d.1[j]? =some k/\d.2[j]? =some t/\cR RT.li M w v t)\/(v= .pointer none/\k∉d.1)
theorem wu.step {d:Di} {k:List UInt8} {M M':aH} {v:Value} {w w':World} (h:wu d k M v w) (s:Step M w M' w' aE):wu d k M' v w':=h.imp (fun⟨j,t,h1,h2,h3⟩=>⟨j,t,h1,h2,h3.le q0 s.le⟩) id
theorem J0 {M:aH} {t:Fd} (w0:World) (hM:Lt M w0) (h1:t.1.length<=140737488355328) (h2:t.2.length<=140737488355328):
  Spec Tryz.prog 95 #[kv t] w0 (λv w=>v= .string ⟨(cZ t).toArray⟩/\Step M w0 M w aE):=by
 refine a8 (args:=[_]) (fn:=Tryz.f95) Tryz.func95 G (n:=9) Tryz.ntmps95 ?_;have S:Step M w0 M w0 aE:=aV;refine T.aP ?_;refine fD (A:=RT.fd) G G hM (Ca hV hV) G (λu0 w1 dF s0 _=>?_);replace hM:=s0.lt hM;have:=S.size;replace S:=S.ax s0;refine Rg.bg G G (T.aP ?_);refine ar (M:=M) (A:=RT.fd) (B:=RT.str) bK G G I9 q0 (KI) G G q0 Ub (by repeat (first|exact bI _ _|refine aX (bJ Ub) ?_)) (λAe kS=>?_);refine bP aA G G G G G kS cf (λv1 qH=>?_);obtain rfl:=ep qH;refine Rg.cat (p:=t.1) (q:=[0]) rfl rfl rfl a08 ?_;refine ar (M:=M) (A:=RT.fd) (B:=RT.str) bK G G I9 q0 (SP) G G q0 Ub (by repeat (first|exact bI _ _|refine aX (bJ Ub) ?_)) (λQV jY=>?_);refine bP aA G G G G G jY cf (λv4 pE=>?_);obtain rfl:=ep pE;refine Rg.cat (p:=t.1++[0]) (q:=t.2) rfl rfl rfl a08 (Rg.bg rfl rfl (aJ ?_));exact aM G G ⟨G,S⟩
namespace TKCursor
theorem kn:TI Tryz.prog 117 (.slice none 0 0) 1 24:=by unfold TI;kernel_rfl
theorem WV:TI Tryz.prog 323 (.agg #[(.pointer none),(.int .i64 0),(.slice none 0 0),(.int .i64 0),(.int .i64 0)]) 5 56:=by unfold TI;kernel_rfl
theorem WW:placesOf Tryz.prog 323=[(0,1),(1,1),(2,1),(3,1),(4,1)].map some:=by kernel_rfl
theorem JQ:Enters Tryz.prog 100:=enters Tryz.func100 rfl q0
theorem abu:Enters Tryz.prog 220:=enters Tryz.func220 rfl q0
end TKCursor
open TKCursor
set_option maxRecDepth 10000
theorem mK {l:List Po} {j:Nat} {p:Po} (h:l[j]? =some p):(kM l (j:Int))[0]? =some p:=by
 unfold kM;rw[if_neg hV,aw,dI,if_pos hV,gY];simpa using h
theorem GV {l:List Po} {i:Int} (h:(l.length:Int)<=i):kM l i=[]:=by
 unfold kM;rw[if_neg hV,eT hV,List.take_nil]
theorem J1 {M:aH} {w0:World} {q:Addr} {l:List Po} (hv:cR RT.li M w0 (.pointer (some q)) (kG l)):
  Spec Tryz.prog 219 #[.pointer (some q)] w0 (λv' w'=>∃bc,v'= .pointer (some ⟨bc,0,none⟩)/\w0.heap.size<=bc/\Step M w0 (ins M bc) w' aE/\Cu 323 l (-1) (ins M bc) w' bc):=by
 refine a8 (args:=[_]) (fn:=Tryz.f219) Tryz.func219 G (n:=12) Tryz.ntmps219 (T.aP (Rg.bg G G (aN (T.aP (ab G G (Rg.Lr (v:= .pointer (some q)) dL G ⟨_,G⟩ G G (bh (v':= .bool (decide False)) G (ad ?_))))))));refine T.IN G ((λh=>h)) (aR (T.aP (ab rfl rfl (dg (places:=[(0,1),(1,1),(2,1),(3,1),(4,1)]) bU WV WW rfl ⟨_,_,rfl,rfl,_,_,rfl,rfl,_,_,rfl,rfl,rfl⟩ (out:=[_,_,.slice none 0 0,_,.int .i64 0]) ⟨0,[_],rfl,rfl,by simp[Value.cells],1,[_],rfl,rfl,by simp[Value.cells],3,[_],rfl,rfl,by simp[Value.cells],rfl⟩ ?_))));refine o2 M G G (λbc w1 h1 Qu hS s1=>?_);refine Rg.bg G G (aJ ?_);exact aM G G ⟨bc,G,h1,s1,.pointer (some q),.slice none 0 0,-1,0,.inl G,hS,hv.le q0 s1.le,ij,by omega,by omega,λ_=>rfl,λh=>by omega⟩
theorem Ey {M:aH} {w0:World} {bc:Nat} {l:List Po} {i:Int} (h:Cu 323 l i M w0 bc) (hm:ez (-1) l=true):
  Spec Tryz.prog 220 #[.pointer (some ⟨bc,0,none⟩)] w0 (λv' w'=>v'= .bool (decide (0<=i/\i<l.length))/\w0=w'):=by
 obtain⟨p,u,k,Db,wU,hb,hp,hu,hi,hk,SL,pD⟩:=id h;have kO:=Da hm (i:=i);refine a8 (args:=[_]) (fn:=Tryz.f220) Tryz.func220 G (n:=15) Tryz.ntmps220 (T.aP (Rg.bg G G (T.aP (ab G G (aW G ⟨_,G⟩ G (aT bU G G I3 q0 G G (aG ak G G G Ub G (ed G G G ?_))))))));refine ab G G ?_;refine aO (g:=8) G (λkP=>?_) (λkP=>?_)
 ·refine ah G G (ab G G (ah G G (aW G ⟨_,G⟩ G (ah G G (aT bU G G I3 q0 G G (ah G G (aG ak G G G Ub G (ah G G (cy G G G (aU G G G (aF G G ?_)))))))))));refine ad (aJ ?_)
  first
  |exact a62
  |exact a61
 ·refine aj G G G G (aj G G G G (aj G G G G (aj G G G G (aj G G G G (az G G G (Rg.bg G G (aJ ?_)))))))
  first
  |exact a62
  |exact a61
theorem Ez {M:aH} {w0:World} {v:Value} {b:List Int} (hM:Lt M w0) (hv:((RT.int .i64).sl).V M w0 b v) (sy:b.length<=1099511627776):
  Spec Tryz.prog 100 #[v] w0 (λv' w'=>((RT.int .i64).sl).V M w' b v'∧Step M w0 M w' aE):=by
 obtain⟨a,cap,mY,hc,hl,hs⟩:=iR.1 hv;refine a8 (args:=[_]) (fn:=Tryz.f100) Tryz.func100 G (n:=8) Tryz.ntmps100 (T.aP (Rg.bg G G (aN (T.aP (ab G G (bh (v':= .slice a b.length cap) mY (Rg.sV av G G G (ad ?_))))))));refine bF G (λc1=>?_) (λc1=>?_)
 ·refine T.aP (Rg.bg G G (aJ ?_))
  have hb:b=[]:=by
   rcases hs with h|⟨_,_,h,_⟩
   ·exact h
   ·rw[c1]at h;cases h
  exact aM rfl rfl ⟨by rw[hb];exact ij,aV⟩
 ·refine aR (T.aP ?_);refine Rg.Y9 av I3 M G (λa0 w1 s1=>?_);refine ab G G ?_;refine Rg.nt (A:=RT.int .i64) (hn:=by decide) (M:=M) av I3 G G G G hv s1.le (s1.lt hM) hV (λu2 w2 eS s2=>?_);refine Rg.bg G G (aJ ?_);exact aM G G ⟨eS,s1.ax s2⟩
theorem Co {M:aH} {w0:World} {bc:Nat} {l:List Po} {i:Int} (h:Cu 323 l i M w0 bc) (hm:ez (-1) l=true) (rB:∀p∈l,p.2.length<=1099511627776) (hM:Lt M w0):
  Spec Tryz.prog 167 #[.pointer (some ⟨bc,0,none⟩)] w0 (λv' w'=>((RT.int .i64).sl).V M w' (fV l i) v'∧Step M w0 M w' aE):=by
 obtain⟨p,u,k,Db,wU,hb,hp,hu,hi,hk,SL,pD⟩:=id h;refine a8 (args:=[_]) (fn:=Tryz.f167) Tryz.func167 G (n:=14) Tryz.ntmps167 (T.aP (Rg.bg G G (aN (T.aP (ab G G ?_)))));refine aQ G G abu (Ey h hm) (λr wc h=>?_);obtain⟨rfl,rfl⟩:=h;refine iv G G (bh (v':= .bool (decide (¬(0<=i/\i<l.length)))) (by rw[decide_not]) (ad ?_));refine bF G (λc1=>?_) (λc1=>?_)
 ·have jB:fV l i=[]:=by
   rcases eQ l i with⟨_,_,h0⟩|⟨j,d,ps,rfl,hx,_⟩|⟨_,_,h0⟩
   ·exact h0
   ·have:=(al.1 hx).1;omega
   ·exact h0
  refine T.aP (Rg.bg G G (aJ ?_));exact aM rfl rfl ⟨by rw[jB];exact ij,aV⟩
 ·obtain⟨j,d,ps,rfl,hx,hd,xg⟩:∃j:Nat,∃d ps,i=j/\l[j]? =some (d,ps)/\eI l i=d/\fV l i=ps:=by
   rcases eQ l i with⟨h0,_⟩|h0|⟨h0,_⟩
   ·omega
   ·exact h0
   ·omega
  have hh:=mK hx;have hhl:=(al.1 hh).1;refine aR (T.aP (ab G G (aW G ⟨_,G⟩ G (aT bU G G kn q0 G G (aG bu G G G Ub G ?_)))));refine cD bu iM G G G (hu) cf a42 (λVo WX Om abv=>?_);obtain rfl:(d,ps)=WX:=dJ (aK (Om.symm.trans (by simpa using hh)));refine ar (M:=M) (A:=RT.po) (B:=(RT.int .i64).sl) b9 G G pb q0 (UM) G G q0 Ub (by repeat (first|exact bI _ _|refine aX (bJ Ub) ?_)) (λWp NR=>?_);refine bP (M:=M) av G G G G G Ub (by repeat (first|exact bI _ _|refine aX (bJ Ub) ?_)) (λRv wg=>?_);replace wg:((RT.int .i64).sl).V M _ ps Rv:=wg;refine aQ G G JQ (Ez (M:=M) hM wg (rB _ (ao hx))) (λr wr h=>?_);obtain⟨hr,sr⟩:=h;refine Rg.bg G G (aJ ?_);exact aM rfl rfl ⟨by rw[xg];exact hr,sr⟩
theorem EA {M:aH} {w0:World} {bc:Nat} {l:List Po} {i:Int} (h:Cu 323 l i M w0 bc) (hm:ez (-1) l=true):
  Spec Tryz.prog 165 #[.pointer (some ⟨bc,0,none⟩)] w0 (λv' w'=>v'= .int .i64 (fV l i).length/\w0=w'):=by
 obtain⟨p,u,k,Db,wU,hb,hp,hu,hi,hk,SL,pD⟩:=id h;refine a8 (args:=[_]) (fn:=Tryz.f165) Tryz.func165 G (n:=14) Tryz.ntmps165 (T.aP (Rg.bg G G (aN (T.aP (ab G G ?_)))));refine aQ G G abu (Ey h hm) (λr wc h=>?_);obtain⟨rfl,rfl⟩:=h;refine iv G G (bh (v':= .bool (decide (¬(0<=i/\i<l.length)))) (by rw[decide_not]) (ad ?_));refine bF G (λc1=>?_) (λc1=>?_)
 ·have jB:fV l i=[]:=by
   rcases eQ l i with⟨_,_,h0⟩|⟨j,d,ps,rfl,hx,_⟩|⟨_,_,h0⟩
   ·exact h0
   ·have:=(al.1 hx).1;omega
   ·exact h0
  refine T.aP (Rg.bg G G (aJ ?_));exact aM rfl rfl ⟨by rw[jB];rfl,rfl⟩
 ·obtain⟨j,d,ps,rfl,hx,hd,xg⟩:∃j:Nat,∃d ps,i=j/\l[j]? =some (d,ps)/\eI l i=d/\fV l i=ps:=by
   rcases eQ l i with⟨h0,_⟩|h0|⟨h0,_⟩
   ·omega
   ·exact h0
   ·omega
  have hh:=mK hx;have hhl:=(al.1 hh).1;refine aR (T.aP (ab G G (aW G ⟨_,G⟩ G (aT bU G G kn q0 G G (aG bu G G G Ub G ?_)))));refine cD bu iM G G G (hu) cf a42 (λVo WX Om abv=>?_);obtain rfl:(d,ps)=WX:=dJ (aK (Om.symm.trans (by simpa using hh)));refine ar (M:=M) (A:=RT.po) (B:=(RT.int .i64).sl) b9 G G pb q0 (UM) G G q0 Ub (by repeat (first|exact bI _ _|refine aX (bJ Ub) ?_)) (λWp NR=>?_);refine bP (M:=M) av G G G G G Ub (by repeat (first|exact bI _ _|refine aX (bJ Ub) ?_)) (λRv wg=>?_);replace wg:((RT.int .i64).sl).V M _ ps Rv:=wg;refine bN av G wg G (Rg.bg G G (aJ ?_));exact aM rfl rfl ⟨by rw[xg],rfl⟩
def lZ (l:List Po) (i:Int):Int:=if i<l.length then i+1 else i
theorem On {l:List Po} (hm:ez (-1) l=true) {i:Int} (hi: -1<=i/\i<=l.length):rL l i (min (eI l i+1) 2147483648)=lZ l i:=by
 unfold rL lZ;rcases eQ l i with⟨h0,h,_⟩|⟨j,d,ps,rfl,hx,h,_⟩|⟨h0,h,_⟩
 ·rw[h,if_neg hV,if_pos hV];rw[idx_eq (i:=0) (λj hj=>absurd hj (fB _)) (λp hp=>by have:=kY hm (i:=0) (d:=p.1) (ps:=p.2) hp;omega) (bm _)];omega
 ·have hr:=kY hm hx;have hj:=(al.1 hx).1;rw[h,if_neg hV,if_pos hV];rw[idx_eq (i:=j+1) (λt ht p hp=>?_) (λp hp=>?_) hV]
  ·omega
  ·rcases cK t j with h1|h1
   ·have:=mD hm hp hx h1;simp only at this;omega
   ·rw[show t=j from by omega,hx]at hp;cases hp;simp only;omega
  ·have h1:=mD hm hx hp hV;have h2:=kY hm (i:=j+1) (d:=p.1) (ps:=p.2) hp;simp only at h1;omega
 ·rw[h,if_pos hV,if_neg hV]
end Go.K
namespace Go.K
open Go.Proofs
namespace TKIdx
theorem aiV:Enters Tryz.prog 225:=enters Tryz.func225 rfl q0
end TKIdx
open TKIdx
set_option maxRecDepth 10000
theorem J2 {M:aH} {w0:World} {x:Value} {d to:Int} {bt:Nat} (hM:Lt M w0) (hb:w0.heap[bt]? =some (.cells #[.int .i64 to] 3 (0,0))):
  Spec Tryz.prog 225 #[.agg #[.int .i64 d,x],.pointer (some ⟨bt,0,none⟩)] w0 (λv' w'=>v'= .bool (decide (to<=d))/\Step M w0 M w' aE):=by
 refine a8 (args:=[_,_]) (fn:=Tryz.f225) Tryz.func225 G (n:=8) Tryz.ntmps225 (T.aP ?_);refine o2 M G G (λbx w1 h1 Qu hS s1=>?_);change w1.heap[bx]? =some (.cells #[.int .i64 d,x] _ _)at hS;have uI:=s1.aB hb;refine Rg.bg G G (T.aP (aT b9 G G I3 q0 G G (aG ak G G G Ub G (aG ak G G G Ub G (ed G G G (Rg.bg G G (aJ ?_)))))));exact aM G G ⟨G,s1.back⟩
set_option maxHeartbeats 2000000 in
theorem tK {M:aH} {w0:World} {v:Value} {lf:List Po} {to:Int} {bt:Nat} (hM:Lt M w0) (hv:((RT.po).sl).V M w0 lf v) (hb:w0.heap[bt]? =some (.cells #[.int .i64 to] 3 (0,0))):
  Spec Tryz.prog 224 #[v,.func (.func 225) #[] #[.pointer (some ⟨bt,0,none⟩)]] w0 (λv' w'=>v'= .int .i64 (if idx lf to<lf.length then(idx lf to:Int)else-1)/\Step M w0 M w' aE):=by
 have hlen:=dQ hv;refine a8 (args:=[_,_]) (fn:=Tryz.f224) Tryz.func224 G (n:=19) Tryz.ntmps224 (T.aP (Rg.bg G G (aN (T.aP (ab G G (bN bu G hv G (ab G G (ad ?_))))))));refine aY ?_;refine dz (σ:=Nat) (λs=>[(0,v),(1,.func (.func 225) #[] #[.pointer (some ⟨bt,0,none⟩)]),(7,.int .i64 lf.length),(8,.int .i64 s)]) (λs w=>s<=lf.length/\Step M w0 M w aE/\∀j,j<s->∀p,lf[j]? =some p->p.1<to) (λs=>lf.length-s) 0 Uc ?_ ?_
 ·exact⟨bm _,aV,λj hj=>absurd hj (fB _)⟩
 ·rintro k w1 ⟨hk,S,eK⟩;refine T.aP (cy G G G (ad (aN ?_)));refine bF G (λc2=>?_) (λc2=>?_)
  ·refine aR (aN (aY (T.aP (ab G G (Rg.bg G G (T.aP (ab G G (ab G G ?_))))))));refine ab G G ?_;obtain⟨⟨d,ps⟩,hx⟩:∃x,(lf)[k]? =some x:=⟨_,an hV⟩;refine cD bu iM G G G (hv.le S.le) cf a42 (λZB aiW abw anr=>?_);obtain rfl:(d,ps)=aiW:=dJ (aK (abw.symm.trans ad1));refine cv (M:=M) (A:=RT.po) b9 G iM q0 G G G Ub (by repeat (first|exact bI _ _|refine aX (bJ Ub) ?_)) (λarR abx=>?_);obtain⟨x4,rfl,_,_⟩:=UO abx;refine uk (first:=[]) (captured:=[.pointer (some ⟨bt,0,none⟩)]) (xs:=[.tmp 15]) G G G aiV (J2 (M:=M) (d:=d) (x:=x4) (S.lt hM) (S.aB hb)) (λr w2 h2=>?_);obtain⟨rfl,s2⟩:=h2;refine ad ?_;refine bF G (λc4=>?_) (λc4=>?_)
   ·refine T.aP (ab G G (Rg.bg G G (aJ ?_)));have he:idx lf to=k:=idx_eq eK (λp hp=>by rw[hx]at hp;cases hp;exact c4) hk;exact aM rfl rfl ⟨by rw[he,if_pos hV],S.ax s2⟩
   ·refine aR (aL (bB G G G hV (ab G G (ad ?_))));refine⟨G,k+1,Uc,?_,?_⟩
    ·refine ⟨by omega,S.ax s2,λj hj p hp=> ?_⟩;rcases cK j k with Yx|Yx
     ·exact eK j Yx p hp
     ·rw[show j=k from by omega,hx]at hp;cases hp;simp only;omega
    ·show _-(k+1)<_-k;omega
  ·refine cQ (T.aP (Rg.bg G G (aJ ?_)))
   have he:idx lf to=lf.length:=by
    obtain rfl:k=lf.length:=by omega
    exact idx_eq eK (λp hp=>by simp at hp) (br _)
   exact aM rfl rfl ⟨by rw[he,if_neg hV],S⟩
end Go.K
namespace Go.K
open Go.Proofs
namespace TKAdv
theorem kn:TI Tryz.prog 117 (.slice none 0 0) 1 24:=by unfold TI;kernel_rfl
theorem RP:Enters Tryz.prog 166:=enters Tryz.func166 rfl q0
theorem RQ:Enters Tryz.prog 221:=enters Tryz.func221 rfl q0
theorem aiX:Enters Tryz.prog 222:=enters Tryz.func222 rfl q0
theorem aiY:Enters Tryz.prog 223:=enters Tryz.func223 rfl q0
theorem aby:Enters Tryz.prog 224:=enters Tryz.func224 rfl q0
end TKAdv
open TKAdv
set_option maxRecDepth 10000
set_option maxHeartbeats 2000000 in
theorem oJ {M:aH} {w0:World} {bc:Nat} {l:List Po} {i to:Int} (h:Cu 323 l i M w0 bc) (hM:Lt M w0) (hm:ez (-1) l=true) (rB:∀p∈l,p.2.length<=1099511627776) (sy:(ei (-1) l).length<=1099511627776) (PV:l.length<=1099511627776) (Y4: -9223372036854775808<=to/\to<=9223372036854775807):
  Spec Tryz.prog 166 #[.pointer (some ⟨bc,0,none⟩),.int .i64 to] w0 (λv' w'=>v'= .int .i64 (eI l (rL l i to))/\Step M w0 M w' (λb=>b=bc)/\Cu 323 l (rL l i to) M w' bc):=by
 obtain⟨p,u,k,Db,wU,hb,hp,hu,hi,hk,SL,pD⟩:=id h;have KG:(kG l).2.1.length=(l.length+7)/8:=by simp[kG,o9]
 have CJ:∀b:Nat,b=bc->M b:=λb hb=>by rw[hb];exact wU
 have hdr:=uD hm i;refine a8 (args:=[_,_]) (fn:=Tryz.f166) Tryz.func166 G (n:=107) Tryz.ntmps166 (T.aP ?_);refine o2 M G G (λbt w1 ht ht' hT s1=>?_);change w1.heap[bt]? =some (.cells #[.int .i64 to] _ _)at hT;have N2:bt≠bc:=by have:=ae hb;omega
 have uI:=s1.aB hb;generalize Ao:ins M bt=M1 at s1;have oG:=s1.lt hM;have TA:=hp.le q0 s1.le;have k8:=hu.le s1.le;have Ap:=(s1.mem bc (ae hb)).2 wU;have hcM:∀b:Nat,b=bc->M1 b:=λb h=>by rw[h];exact Ap
 refine Rg.bg G G (aN (aN ?_));apply T.draw (M:=M1) mixed [cj.eq _,cj.eq _,cj.eq _,cj.eq _,cj.eq _,cj.eq _]
 ·rfl
 ·refine aI ?_ ?_
  ·intro wD E sD;refine aG ak G G G (bY sD Ub) G ?_;exact a00
  refine aI ?_ ?_
  ·intro wD E sD;refine ab G G ?_;exact a00
  refine aI ?_ ?_
  ·intro wD E sD;refine aq (aW G ⟨_,G⟩ G ?_);exact a00
  refine aI ?_ ?_
  ·intro wD E sD;refine aq (aT bU G G I3 q0 G G ?_);exact a00
  refine aI ?_ ?_
  ·intro wD E sD;refine aq (aG ak G G G (bY sD Ub) G ?_);exact a00
  refine aI ?_ ?_
  ·intro wD E sD;refine aq (aq (fQ G G G ?_));exact a00
  exact zV
 ·intro Jp lN;refine aq (aq (aq (aq (aq (aq ?_)))));have CR:=lN.aB uI;refine bF G (λc1=>?_) (λc1=>?_)
  ·refine T.aP (ab G G (aW G ⟨_,G⟩ G (aT bU G G I3 q0 G G (aG ak G G G Ub G (Rg.bg G G (aJ ?_))))));have he:rL l i to=i:=by unfold rL;rw[if_pos c1]
   rw[he];have S:=s1.ax lN;exact aM G G ⟨G,S.back.ek a18 CJ,h.step S.back (λh=>h)⟩
  ·refine aR (T.aP (ab G G (aW G ⟨_,G⟩ G (aT bU G G I3 q0 G G (aG ak G G G Ub G (Rg.max2 G G G (Rg.bg G G (aN (aY ?_)))))))));refine dz (σ:=Nat) (λs=>[(0,.pointer (some ⟨bc,0,none⟩)),(3,.pointer (some ⟨bt,0,none⟩)),(5,.int .i64 s)]) (λs w=>s<=(l.length+7)/8/\cI (-1) (l.take (8*s))<to/\Step M1 w1 M1 w aE) (λs=>(l.length+7)/8-s) (max k 0).toNat (.cons rfl (.cons rfl (.cons (by rw[show(((max k 0).toNat:Nat):Int)=max k 0 from by omega];rfl) .nil))) ?_ ?_
   ·exact⟨by omega,Jc hm hi hk SL pD hV,lN⟩
   ·rintro n w4 ⟨hn,Yj,S4⟩;have Rx:=S4.aB uI;have Yy:=S4.aB hT;have KR:=TA.le q0 S4.le;refine aN (aN ?_);by_cases abz:(n:Int)<(((l.length+7)/8:Nat):Int)
    ·apply T.draw (M:=M1) mixed [cj.eq _,cj.eq _,cj.eq _,cj.eq _,cj.eq _,cj.eq _,cj.eq _,cj.eq (.bool true),cj.eq _,cj.eq _,cj.eq _,cj.eq _,cj.eq _,cj.eq _,cj.eq _,cj.eq _,cj.eq _]
     ·rfl
     ·refine aI ?_ ?_
      ·intro wD E sD;refine ab G G ?_;exact a00
      refine aI ?_ ?_
      ·intro wD E sD;refine ab G G ?_;exact a00
      refine aI ?_ ?_
      ·intro wD E sD;refine aq (aW G ⟨_,G⟩ G ?_);exact a00
      refine aI ?_ ?_
      ·intro wD E sD;refine aq (aT bU G G rO q0 G G ?_);exact a00
      refine aI ?_ ?_
      ·intro wD E sD;refine aq (aG dL G G G (bY sD Ub) G ?_);exact a00
      refine aI ?_ ?_
      ·intro wD E sD;refine aq ?_;refine aQ G G RQ (mI (M:=M1) (KR.le q0 sD.le)) (λr wc h=>?_);obtain⟨rfl,rfl⟩:=h;exact ad ⟨G,G,_,G,congrArg (λn:Nat=>Value.int .i64 n) KG,aV⟩
      refine aI ?_ ?_
      ·intro wD E sD;refine aq (aq (cy G G G ?_));exact a00
      refine aI ?_ ?_
      ·intro wD E sD;refine aq (aq (ab G G ?_));refine ad ⟨G,G,_,G,?_,aV⟩;exact congrArg Value.bool (decide_eq_true abz)
      refine aI ?_ ?_
      ·intro wD E sD;refine aq (ah G G (ab G G ?_));exact a00
      refine aI ?_ ?_
      ·intro wD E sD;refine aq (aq (ah G G (aW G ⟨_,G⟩ G ?_)));exact a00
      refine aI ?_ ?_
      ·intro wD E sD;refine aq (aq (ah G G (aT bU G G rO q0 G G ?_)));exact a00
      refine aI ?_ ?_
      ·intro wD E sD;refine aq (aq (ah G G (aG dL G G G (bY sD Ub) G ?_)));exact a00
      refine aI ?_ ?_
      ·intro wD E sD;refine aq (ah G G (ab G G ?_));exact a00
      refine aI ?_ ?_
      ·intro wD E sD;refine aq (aq (aq (aq (ah G G ?_))));refine aQ G G aiX (JT (k:=n) (KR.le q0 sD.le)) (λr wc h=>?_);obtain⟨rfl,rfl⟩:=h;exact a00
      refine aI ?_ ?_
      ·intro wD E sD;refine aq (ah G G (aG ak G G G (bY sD Ub) G ?_));exact a00
      refine aI ?_ ?_
      ·intro wD E sD;refine aq (aq (aq (ah G G (cy G G G ?_))));exact a00
      refine aI ?_ ?_
      ·intro wD E sD;refine aq (aq (aU G G G ?_));exact a00
      exact zV
     ·intro wD4 qu;refine aq (aq (aq (aq (aq (aq (aq (aq (aq (aq (aq (aq ?_)))))))))));refine aq (aq (aq (aq (aq ?_))));replace S4:=S4.ax qu;replace Rx:=qu.aB Rx;replace Yy:=qu.aB Yy;replace KR:=KR.le q0 qu.le;have TG:=S4.lt oG;refine bF G (λc4=>?_) (λc4=>?_)
      ·refine aR (aY (aL (ab G G (bB G G G hV (Rg.bg G G ?_)))));refine⟨G,n+1,a09,?_,?_⟩
       ·have CL:=C9 (g:=l) (k:=n) hV;refine⟨by omega,?_,S4⟩;rw[show 8*(n+1)=8*n+8 from by omega,<-CL];exact c4
       ·show _-(n+1)<_-n;omega
      ·refine cQ (aN (T.aP (ab G G (ab G G (aW G ⟨_,G⟩ G (aT bU G G rO q0 G G (aG dL G G G Ub G ?_)))))));refine aQ G G RQ (mI (M:=M1) KR) (λr wc h=>?_);obtain⟨rfl,rfl⟩:=h;refine bh (v':= .int .i64 (((l.length+7)/8:Nat):Int)) (congrArg (λn:Nat=>Value.int .i64 n) KG) (ic G G G (ad ?_));refine bF G (λc6=>?_) (λc6=>?_)
       ·exfalso;omega
       ·have hnk:n<(l.length+7)/8:=by omega
        have Zb:to<=cI (-1) (l.take (8*n+8)):=by
         first
         |(exfalso;omega)
         |(have:=C9 (g:=l) (k:=n) hV;omega)
        refine aR (aN (T.aP (ab G G (ab G G (aW G ⟨_,G⟩ G (aT bU G G I3 q0 G G (aG ak G G G Ub G (eW G G G (ad ?_)))))))));refine bF G (λc9=>?_) (λc9=>?_)
        ·refine T.aP (ab G G (ab G G (ab G G (ab G G (aW G ⟨_,G⟩ G (aT bU G G rO q0 G G (aG dL G G G Ub G (ab G G ?_))))))));refine aQ G G aiY (GC (M:=M1) (k:=n) TG KR hm rB sy) (λJy w10 h=>?_);obtain⟨rV,JP⟩:=h;rw[if_pos (by unfold Lv;simp;omega),aw]at JP;have ai0:=rV.aB Rx;refine aW G ⟨_,G⟩ G (aT bU G G I3 q0 G G ?_);refine cg (M:=M1) I3 G G ai0 G G Ap (λw11 abA yZ=>?_);change w11.heap[bc]? =some (.cells #[p,.int .i64 n,u,.int .i64 (eI l i),.int .i64 Db] 323 (0,0))at abA;refine aW G ⟨_,G⟩ G (aT bU G G kn q0 G G ?_);refine cg (M:=M1) kn G G abA G (jl JP G G) Ap (λMe RR mF=>?_);change Me.heap[bc]? =some (.cells #[p,.int .i64 n,Jy,.int .i64 (eI l i),.int .i64 Db] 323 (0,0))at RR;refine ad (aL (ab G G (aW G ⟨_,G⟩ G (aT bU G G I3 q0 G G (aG ak G G G Ub G (Rg.xF G G G (aW G ⟨_,G⟩ G (aT bU G G I3 q0 G G ?_))))))));refine cg (M:=M1) I3 G G RR G G Ap (λWc WY tB=>?_);change Wc.heap[bc]? =some (.cells #[p,.int .i64 n,Jy,.int .i64 (eI l i),.int .i64 (IntKind.i64.wrap (Db+1))] 323 (0,0))at WY;obtain⟨lf,uX,cX,s,wX,hwX,hbX,hlV,UN,Ur,CH,TP,hs4,hpX,hTX,SX⟩:∃lf uX cX s wX,wX=Wc/\wX.heap[bc]? =some (.cells #[p,.int .i64 n,uX,.int .i64 (eI l i),.int .i64 cX] 323 (0,0))/\((RT.po).sl).V M1 wX lf uX/\lf=(l.drop s).take (8*n+8-s)/\8*n<=s/\s<8*n+8/\s<l.length/\cI (-1) (l.take s)<to/\cR RT.li M1 wX p (kG l)/\wX.heap[bt]? =some (.cells #[.int .i64 to] 3 (0,0))/\Step M1 w1 M1 wX (λb=>b=bc):=⟨_,Jy,_,8*n,Wc,rfl,WY,((JP.le yZ.le).le mF.le).le tB.le,by rw[show 8*n+8-8*n=8 from by omega],by omega,by omega,by omega,Yj,(((KR.le q0 rV.le).le q0 yZ.le).le q0 mF.le).le q0 tB.le,tB.bR (mF.bR (yZ.bR (rV.aB Yy) N2) N2) N2,((((S4.ek a18 hcM).ax rV).trans yZ (λ_ _ h=>h)).trans mF (λ_ _ h=>h)).trans tB (λ_ _ h=>h)⟩
         subst hwX;clear WY;refine ad (aN ?_);obtain⟨Y7,PW,ha3,ha4,ha5⟩:=AN hm Ur CH TP hs4 Zb UN;have hMX:=SX.lt oG;obtain⟨⟨d,ps⟩,hx⟩:∃x,l[idx l to]? =some x:=⟨_,an ha3⟩;have hh:=mK hx;have hhl:=(al.1 hh).1;apply T.qS (M:=M1) mixed [] [cj.eq _,cj.eq _,cj.eq _,cj.eq _,cj.eq uX,cj.eq _,cj.eq _,cj.eq _,cj.eq uX,cj.eq _,cj.eq _,cj.V ((RT.po).sl) (kM l (idx l to:Nat))] 12
         ·rfl
         ·rfl
         ·rfl
         ·rfl
         ·rfl
         ·exact a86
         ·exact qA
         ·refine ay ?_ ?_
          ·intro wD E sD;refine ab G G ?_;exact a00
          refine ay ?_ ?_
          ·intro wD E sD;refine ab G G ?_;exact a00
          refine ay ?_ ?_
          ·intro wD E sD;refine aq (aW G ⟨_,G⟩ G ?_);exact a00
          refine ay ?_ ?_
          ·intro wD E sD;refine aq (aT bU G G kn q0 G G ?_);exact a00
          refine ay ?_ ?_
          ·intro wD E sD;refine aq (aG bu G G G (bY sD Ub) G ?_);exact a00
          refine ay ?_ ?_
          ·intro wD E sD;refine ab G G ?_;exact a00
          refine ay ?_ ?_
          ·intro wD E sD;refine aq (aW G ⟨_,G⟩ G ?_);exact a00
          refine ay ?_ ?_
          ·intro wD E sD;refine aq (aT bU G G kn q0 G G ?_);exact a00
          refine ay ?_ ?_
          ·intro wD E sD;refine aq (aG bu G G G (bY sD Ub) G ?_);exact a00
          refine ay ?_ ?_
          ·intro wD E sD;refine jd (xs:=[]) (ys:=[.tmp 3]) G G G ?_;exact a00
          refine ay ?_ ?_
          ·intro wD E sD;refine aq (aq ?_);refine aQ G G aby (tK (M:=M1) (sD.lt hMX) (hlV.le sD.le) (sD.aB hTX)) (λr wi h=>?_);obtain⟨rfl,s⟩:=h;refine bh (v':= .int .i64 ((idx lf to:Nat):Int)) (by rw[if_pos PW]) ?_;exact ad ⟨G,G,_,G,G,s⟩
          refine ay ?_ ?_
          ·intro wD E sD;refine aq (aq ?_);refine Rg.nV (A:=RT.po) (hn:=by decide) bu iM G G G (hlV.le sD.le) hV (λu hu=>?_);rw[aw,ha5]at hu;exact ad ⟨G,G,_,G,hu,aV⟩
          exact jS
         ·intro NY y4;refine aq (aq (aq (aq (aq (aq (aq (aq (aq (aq (aq ?_))))))))));intro oK Cp;have WZ:=y4.aB hbX;have k9:((RT.po).sl).V M1 NY (kM l (idx l to:Nat)) oK:=Cp;have S14:=SX.ax y4;refine aW G ⟨_,G⟩ G (aT bU G G kn q0 G G ?_);refine cg (M:=M1) kn G G WZ G (jl k9 G G) Ap (λF7 Oo oy=>?_);change F7.heap[bc]? =some (.cells #[p,.int .i64 n,oK,.int .i64 (eI l i),.int .i64 cX] 323 (0,0))at Oo;replace k9:=k9.le oy.le;refine ad (T.aP (ab G G (ab G G (aW G ⟨_,G⟩ G (aT bU G G kn q0 G G (aG bu G G G Ub G ?_))))));refine cD bu iM G G G (k9) cf a42 (λabC Oq GW W0=>?_);obtain rfl:(d,ps)=Oq:=dJ (aK (GW.symm.trans (by simpa using hh)));refine ar (M:=M1) (A:=RT.po) (B:=RT.int .i64) b9 G G I3 q0 (PX) G G q0 Ub (by repeat (first|exact bI _ _|refine aX (bJ Ub) ?_)) (λTg Mr=>?_);refine b4 (M:=M1) ak G G Ub (by repeat (first|exact bI _ _|refine aX (bJ Ub) ?_)) (λy9=>?_);refine bh (v':= .int .i64 (d)) G ?_;replace y9: -9223372036854775808<=(d:Int)/\d<=9223372036854775807:=y9;refine aW G ⟨_,G⟩ G (aT bU G G I3 q0 G G ?_);refine cg (M:=M1) I3 G G Oo G G Ap (λTF Ot GK=>?_);change TF.heap[bc]? =some (.cells #[p,.int .i64 n,oK,.int .i64 d,.int .i64 cX] 323 (0,0))at Ot;replace k9:=k9.le GK.le;refine ad (T.aP (ab G G (aW G ⟨_,G⟩ G (aT bU G G I3 q0 G G (aG ak G G G Ub G (Rg.bg G G (aJ ?_)))))))
          have he:rL l i to=(idx l to:Int):=by unfold rL;rw[if_neg c1]
          rw[he];have S7:=((s1.ek a18 CJ).trans ((S14.trans oy (λ_ _ h=>h)).trans GK (λ_ _ h=>h)) (λ_ _ h=>h));exact aM rfl rfl ⟨by rw[jh hx];rfl,S7.back,p,oK,n,cX,wU,by rw[jh hx];exact Ot,(hp.le q0 S7.back.le),k9.le (nT hM S7),by omega,by omega,λh=>by omega,λ_ h=>by omega⟩
        ·have arU:=(kd l (-1) hm q0 (8*n+8)).2
         obtain⟨Uu,AA⟩:0<=i/\i<l.length:=by
          rcases eQ l i with⟨h0,_⟩|⟨j,d,ps,rfl,hx,_⟩|⟨h0,h1,_⟩
          ·have:=SL h0;omega
          ·have:=(al.1 hx).1;omega
          ·omega
         have C1:=pD Uu AA;obtain⟨j,jf⟩:∃j:Nat,i=j:=⟨i.toNat,by omega⟩;obtain⟨⟨dj,pj⟩,EB⟩:∃x,l[j]? =some x:=⟨_,an hV⟩;have hdj:=jh EB;rw[<-jf]at hdj;have hlj:=(pO hm EB).1;obtain rfl:(n:Int)=k:=by omega
         have KJ:=k8.le S4.le;obtain⟨lf,uX,cX,s,wX,hwX,hbX,hlV,UN,Ur,CH,TP,hs4,hpX,hTX,SX⟩:∃lf uX cX s wX,wX=_/\wX.heap[bc]? =some (.cells #[p,.int .i64 n,uX,.int .i64 (eI l i),.int .i64 cX] 323 (0,0))/\((RT.po).sl).V M1 wX lf uX/\lf=(l.drop s).take (8*n+8-s)/\8*n<=s/\s<8*n+8/\s<l.length/\cI (-1) (l.take s)<to/\cR RT.li M1 wX p (kG l)/\wX.heap[bt]? =some (.cells #[.int .i64 to] 3 (0,0))/\Step M1 w1 M1 wX (λb=>b=bc):=⟨_,u,Db,j,_,rfl,Rx,KJ,by rw[jf];unfold kM;rw[if_neg hV,aw,show 8*n+8-j=8-j%8 from by omega],by omega,by omega,by omega,by omega,KR,Yy,S4.ek a18 hcM⟩;subst hwX;clear Rx;refine aR (aN ?_);obtain⟨Y7,PW,ha3,ha4,ha5⟩:=AN hm Ur CH TP hs4 Zb UN;have hMX:=SX.lt oG;obtain⟨⟨d,ps⟩,hx⟩:∃x,l[idx l to]? =some x:=⟨_,an ha3⟩;have hh:=mK hx;have hhl:=(al.1 hh).1;apply T.qS (M:=M1) mixed [] [cj.eq _,cj.eq _,cj.eq _,cj.eq _,cj.eq uX,cj.eq _,cj.eq _,cj.eq _,cj.eq uX,cj.eq _,cj.eq _,cj.V ((RT.po).sl) (kM l (idx l to:Nat))] 12
         ·rfl
         ·rfl
         ·rfl
         ·rfl
         ·rfl
         ·exact a86
         ·exact qA
         ·refine ay ?_ ?_
          ·intro wD E sD;refine ab G G ?_;exact a00
          refine ay ?_ ?_
          ·intro wD E sD;refine ab G G ?_;exact a00
          refine ay ?_ ?_
          ·intro wD E sD;refine aq (aW G ⟨_,G⟩ G ?_);exact a00
          refine ay ?_ ?_
          ·intro wD E sD;refine aq (aT bU G G kn q0 G G ?_);exact a00
          refine ay ?_ ?_
          ·intro wD E sD;refine aq (aG bu G G G (bY sD Ub) G ?_);exact a00
          refine ay ?_ ?_
          ·intro wD E sD;refine ab G G ?_;exact a00
          refine ay ?_ ?_
          ·intro wD E sD;refine aq (aW G ⟨_,G⟩ G ?_);exact a00
          refine ay ?_ ?_
          ·intro wD E sD;refine aq (aT bU G G kn q0 G G ?_);exact a00
          refine ay ?_ ?_
          ·intro wD E sD;refine aq (aG bu G G G (bY sD Ub) G ?_);exact a00
          refine ay ?_ ?_
          ·intro wD E sD;refine jd (xs:=[]) (ys:=[.tmp 3]) G G G ?_;exact a00
          refine ay ?_ ?_
          ·intro wD E sD;refine aq (aq ?_);refine aQ G G aby (tK (M:=M1) (sD.lt hMX) (hlV.le sD.le) (sD.aB hTX)) (λr wi h=>?_);obtain⟨rfl,s⟩:=h;refine bh (v':= .int .i64 ((idx lf to:Nat):Int)) (by rw[if_pos PW]) ?_;exact ad ⟨G,G,_,G,G,s⟩
          refine ay ?_ ?_
          ·intro wD E sD;refine aq (aq ?_);refine Rg.nV (A:=RT.po) (hn:=by decide) bu iM G G G (hlV.le sD.le) hV (λu hu=>?_);rw[aw,ha5]at hu;exact ad ⟨G,G,_,G,hu,aV⟩
          exact jS
         ·intro NY y4;refine aq (aq (aq (aq (aq (aq (aq (aq (aq (aq (aq ?_))))))))));intro oK Cp;have WZ:=y4.aB hbX;have k9:((RT.po).sl).V M1 NY (kM l (idx l to:Nat)) oK:=Cp;have S14:=SX.ax y4;refine aW G ⟨_,G⟩ G (aT bU G G kn q0 G G ?_);refine cg (M:=M1) kn G G WZ G (jl k9 G G) Ap (λF7 Oo oy=>?_);change F7.heap[bc]? =some (.cells #[p,.int .i64 n,oK,.int .i64 (eI l i),.int .i64 cX] 323 (0,0))at Oo;replace k9:=k9.le oy.le;refine ad (T.aP (ab G G (ab G G (aW G ⟨_,G⟩ G (aT bU G G kn q0 G G (aG bu G G G Ub G ?_))))));refine cD bu iM G G G (k9) cf a42 (λabC Oq GW W0=>?_);obtain rfl:(d,ps)=Oq:=dJ (aK (GW.symm.trans (by simpa using hh)));refine ar (M:=M1) (A:=RT.po) (B:=RT.int .i64) b9 G G I3 q0 (PX) G G q0 Ub (by repeat (first|exact bI _ _|refine aX (bJ Ub) ?_)) (λTg Mr=>?_);refine b4 (M:=M1) ak G G Ub (by repeat (first|exact bI _ _|refine aX (bJ Ub) ?_)) (λy9=>?_);refine bh (v':= .int .i64 (d)) G ?_;replace y9: -9223372036854775808<=(d:Int)/\d<=9223372036854775807:=y9;refine aW G ⟨_,G⟩ G (aT bU G G I3 q0 G G ?_);refine cg (M:=M1) I3 G G Oo G G Ap (λTF Ot GK=>?_);change TF.heap[bc]? =some (.cells #[p,.int .i64 n,oK,.int .i64 d,.int .i64 cX] 323 (0,0))at Ot;replace k9:=k9.le GK.le;refine ad (T.aP (ab G G (aW G ⟨_,G⟩ G (aT bU G G I3 q0 G G (aG ak G G G Ub G (Rg.bg G G (aJ ?_)))))))
          have he:rL l i to=(idx l to:Int):=by unfold rL;rw[if_neg c1]
          rw[he];have S7:=((s1.ek a18 CJ).trans ((S14.trans oy (λ_ _ h=>h)).trans GK (λ_ _ h=>h)) (λ_ _ h=>h));exact aM rfl rfl ⟨by rw[jh hx];rfl,S7.back,p,oK,n,cX,wU,by rw[jh hx];exact Ot,(hp.le q0 S7.back.le),k9.le (nT hM S7),by omega,by omega,λh=>by omega,λ_ h=>by omega⟩
    ·apply T.draw (M:=M1) mixed [cj.eq _,cj.eq _,cj.eq _,cj.eq _,cj.eq _,cj.eq _,cj.eq _,cj.eq (.bool false),cj.eq undef,cj.eq undef,cj.eq undef,cj.eq undef,cj.eq undef,cj.eq undef,cj.eq undef,cj.eq undef,cj.eq _]
     ·rfl
     ·refine aI ?_ ?_
      ·intro wD E sD;refine ab G G ?_;exact a00
      refine aI ?_ ?_
      ·intro wD E sD;refine ab G G ?_;exact a00
      refine aI ?_ ?_
      ·intro wD E sD;refine aq (aW G ⟨_,G⟩ G ?_);exact a00
      refine aI ?_ ?_
      ·intro wD E sD;refine aq (aT bU G G rO q0 G G ?_);exact a00
      refine aI ?_ ?_
      ·intro wD E sD;refine aq (aG dL G G G (bY sD Ub) G ?_);exact a00
      refine aI ?_ ?_
      ·intro wD E sD;refine aq ?_;refine aQ G G RQ (mI (M:=M1) (KR.le q0 sD.le)) (λr wc h=>?_);obtain⟨rfl,rfl⟩:=h;exact ad ⟨G,G,_,G,congrArg (λn:Nat=>Value.int .i64 n) KG,aV⟩
      refine aI ?_ ?_
      ·intro wD E sD;refine aq (aq (cy G G G ?_));exact a00
      refine aI ?_ ?_
      ·intro wD E sD;refine aq (aq (ab G G ?_));refine ad ⟨G,G,_,G,?_,aV⟩;exact congrArg Value.bool (decide_eq_false abz)
      refine aI ?_ ?_
      ·intro wD E sD;refine aq ?_;exact a10
      refine aI ?_ ?_
      ·intro wD E sD;refine aq (aq ?_);exact a10
      refine aI ?_ ?_
      ·intro wD E sD;refine aq (aq ?_);exact a10
      refine aI ?_ ?_
      ·intro wD E sD;refine aq (aq ?_);exact a10
      refine aI ?_ ?_
      ·intro wD E sD;refine aq ?_;exact a10
      refine aI ?_ ?_
      ·intro wD E sD;refine aq (aq (aq (aq ?_)));exact a10
      refine aI ?_ ?_
      ·intro wD E sD;refine aq ?_;exact a10
      refine aI ?_ ?_
      ·intro wD E sD;refine aq (aq (aq ?_));exact a10
      refine aI ?_ ?_
      ·intro wD E sD;refine aq (aq (az G G G ?_));exact a00
      exact zV
     ·intro wD4 qu;refine aq (aq (aq (aq (aq (aq (aq (aq (aq (aq (aq (aq ?_)))))))))));refine aq (aq (aq (aq (aq ?_))));replace S4:=S4.ax qu;replace Rx:=qu.aB Rx;replace Yy:=qu.aB Yy;replace KR:=KR.le q0 qu.le;have TG:=S4.lt oG;refine iS G (cQ (aN (T.aP (ab G G (ab G G (aW G ⟨_,G⟩ G (aT bU G G rO q0 G G (aG dL G G G Ub G ?_))))))));refine aQ G G RQ (mI (M:=M1) KR) (λr wc h=>?_);obtain⟨rfl,rfl⟩:=h;refine bh (v':= .int .i64 (((l.length+7)/8:Nat):Int)) (congrArg (λn:Nat=>Value.int .i64 n) KG) (ic G G G (ad ?_));refine bF G (λc6=>?_) (λc6=>?_)
      ·refine T.aP (ab G G (ab G G (aW G ⟨_,G⟩ G (aT bU G G kn q0 G G ?_))));refine cg (M:=M1) kn G G Rx G G Ap (λw7 hb7 s7=>?_);change w7.heap[bc]? =some (.cells #[p,.int .i64 k,.slice none 0 0,.int .i64 (eI l i),.int .i64 Db] 323 (0,0))at hb7;refine aW G ⟨_,G⟩ G (aT bU G G I3 q0 G G ?_);refine cg (M:=M1) I3 G G hb7 G G Ap (λw8 hb8 s8=>?_);change w8.heap[bc]? =some (.cells #[p,.int .i64 k,.slice none 0 0,.int .i64 2147483648,.int .i64 Db] 323 (0,0))at hb8;refine ad (T.aP (Rg.bg G G (aJ ?_)));have he:rL l i to=(l.length:Int):=by unfold rL;rw[if_neg c1,Qx hm (n:=8*n) hV Yj]
       rw[he];have S7:=((s1.ax S4).ek a18 CJ).trans ((s7.trans s8 (λ_ _ h=>h))) (λ_ _ h=>h);exact aM rfl rfl ⟨by rw[qm (qi _)],S7.back,p,.slice none 0 0,k,Db,wU,by rw[qm (qi _)];exact hb8,(hp.le q0 S7.back.le),by rw[GV (qi _)];exact ij,by omega,hk,λh=>by omega,λ_ h=>by omega⟩
      ·exfalso;omega
theorem nN {M:aH} {w0:World} {bc:Nat} {l:List Po} {i:Int} (h:Cu 323 l i M w0 bc) (hM:Lt M w0) (hm:ez (-1) l=true) (rB:∀p∈l,p.2.length<=1099511627776) (sy:(ei (-1) l).length<=1099511627776) (PV:l.length<=1099511627776):
  Spec Tryz.prog 164 #[.pointer (some ⟨bc,0,none⟩)] w0 (λv' w'=>v'= .int .i64 (eI l (lZ l i))/\Step M w0 M w' (λb=>b=bc)/\Cu 323 l (lZ l i) M w' bc):=by
 obtain⟨p,u,k,Db,wU,hb,hp,hu,hi,hk,SL,pD⟩:=id h;have hdr:=uD hm i;refine a8 (args:=[_]) (fn:=Tryz.f164) Tryz.func164 G (n:=11) Tryz.ntmps164 (T.aP (Rg.bg G G (T.aP (ab G G (ab G G (aW G ⟨_,G⟩ G (aT bU G G I3 q0 G G (aG ak G G G Ub G ?_))))))));refine bB G G G hV (Rg.min2 G G G ?_);have hn:rL l i (min (eI l i+1) 2147483648)=lZ l i:=On hm hi;refine aQ G G RP (oJ (to:=min (eI l i+1) 2147483648) h hM hm rB sy PV hV) (λr w1 h1=>?_);rw[hn]at h1;obtain⟨rfl,s1,h1⟩:=h1;refine Rg.bg G G (aJ ?_);exact aM G G ⟨G,s1,h1⟩
end Go.K
namespace Go.K
open Go.Proofs
namespace TKErsA
theorem ai9:TI Tryz.prog 213 (.pointer none) 1 8:=by unfold TI;kernel_rfl
theorem WV:TI Tryz.prog 323 (.agg #[(.pointer none),(.int .i64 0),(.slice none 0 0),(.int .i64 0),(.int .i64 0)]) 5 56:=by unfold TI;kernel_rfl
theorem WW:placesOf Tryz.prog 323=[(0,1),(1,1),(2,1),(3,1),(4,1)].map some:=by kernel_rfl
theorem RB:Enters Tryz.prog 155:=enters Tryz.func155 rfl q0
theorem aja:Enters Tryz.prog 218:=enters Tryz.func218 rfl q0
theorem ajb:Enters Tryz.prog 219:=enters Tryz.func219 rfl q0
end TKErsA
open TKErsA
set_option maxRecDepth 10000
theorem EC {M:aH} (w0:World) (hM:Lt M w0):
  Spec Tryz.prog 219 #[.pointer none] w0 (λv' w'=>∃bc,v'= .pointer (some ⟨bc,0,none⟩)/\w0.heap.size<=bc/\Step M w0 (ins M bc) w' aE/\Cu 323 [] (-1) (ins M bc) w' bc):=by
 refine a8 (args:=[_]) (fn:=Tryz.f219) Tryz.func219 G (n:=12) Tryz.ntmps219 (T.aP (Rg.bg G G (aN (T.aP (ab G G (Rg.HE dL G G G (ad (T.aeB G (G) ?_))))))));refine aL ?_;refine aQ G G RB (uZ (l:=[]) hM ij (λp h=>by cases h) q0 q0 q0) (λr2 w2 hc=>?_);obtain⟨s2,eZ,_⟩:=hc;obtain⟨p,rfl,hp⟩:=eZ rfl;obtain⟨q,rfl⟩:=hp.kR;refine ab rfl rfl (cq rfl rfl rfl (cq rfl rfl rfl (Rg.bg rfl rfl (T.aP (ab rfl rfl (dg (places:=[(0,1),(1,1),(2,1),(3,1),(4,1)]) bU WV WW rfl ⟨_,_,rfl,rfl,_,_,rfl,rfl,_,_,rfl,rfl,rfl⟩ (out:=[_,_,.slice none 0 0,_,.int .i64 0]) ⟨0,[_],rfl,rfl,by simp[Value.cells],1,[_],rfl,rfl,by simp[Value.cells],3,[_],rfl,rfl,by simp[Value.cells],rfl⟩ ?_))))));refine o2 M G G (λbc w3 h1 Qu hS s3=>?_);refine Rg.bg G G (aJ ?_);exact aM G G ⟨bc,G,by have:=s2.size;omega,s2.ax s3,.pointer (some q),.slice none 0 0,-1,0,.inl rfl,hS,hp.le q0 s3.le,ij,by decide,by decide,λ_=>rfl,λh=>by omega⟩
theorem ED {M:aH} {v:Value} {l:List Po} (w0:World) (hM:Lt M w0) (h:cR RT.li M w0 v (kG l)\/(v= .pointer none/\l=[])):Spec Tryz.prog 219 #[v] w0 (λv' w'=>∃bc,v'= .pointer (some ⟨bc,0,none⟩)/\w0.heap.size<=bc/\Step M w0 (ins M bc) w' aE/\Cu 323 l (-1) (ins M bc) w' bc):=by
 rcases h with h|⟨rfl,rfl⟩
 ·obtain⟨q,rfl⟩:=h.kR;exact J1 h
 ·exact EC w0 hM
theorem tL {M:aH} {s:Se} {ls:List (List Po)} {t:Fd} {v0:Value} (w0:World) (hM:Lt M w0) (hs:cR RT.se M w0 v0 s) (Og:Gm s.2.2.1) (hls:s.2.2.2=ls.map kG) (hdl:s.2.2.1.length=ls.length) (h1:t.1.length<=140737488355328) (h2:t.2.length<=140737488355328):
  Spec Tryz.prog 163 #[v0,kv t] w0 (λv' w'=>∃bc,v'= .pointer (some ⟨bc,0,none⟩)/\w0.heap.size<=bc/\Step M w0 (ins M bc) w' aE/\Cu 323 (RO s.2.2.1 ls (cZ t)) (-1) (ins M bc) w' bc):=by
 refine a8 (args:=[_,_]) (fn:=Tryz.f163) Tryz.func163 G (n:=19) Tryz.ntmps163 ?_;have S:Step M w0 M w0 aE:=aV;refine T.aP ?_;refine fD (A:=RT.fd) G G hM (Ca h1 h2) G (λu0 w1 dF s0 _=>?_);replace hs:=hs.le q0 s0.le;replace hM:=s0.lt hM;have:=S.size;replace S:=S.ax s0;refine Rg.bg G G (aN ?_);apply T.draw (M:=M) mixed [cj.eq v0,cj.eq v0,cj.ptr ((RT.di).ptr) s.2.2,cj.ptr RT.di s.2.2,cj.eq (kv t),cj.eq (sv (cZ t)),(cj.mk' (λv w=>∃p,v= .tuple #[p,.bool (decide (cZ t∈s.2.2.1))]/\wu s.2.2 (cZ t) M p w) (fun⟨p,h1,h2⟩ s=>⟨p,h1,h2.step s⟩)),(cj.mk' (λv w=>∃p,v= .tuple #[p,.bool (decide (cZ t∈s.2.2.1))]/\wu s.2.2 (cZ t) M p w) (fun⟨p,h1,h2⟩ s=>⟨p,h1,h2.step s⟩)),(cj.mk' (λv w=>wu s.2.2 (cZ t) M v w) (λh s=>h.step s)),cj.eq (.bool (decide (cZ t∈s.2.2.1))),(cj.mk' (λv w=>wu s.2.2 (cZ t) M v w) (λh s=>h.step s)),cj.eq (.bool (decide (cZ t∈s.2.2.1)))]
 ·rfl
 ·refine aI ?_ ?_
  ·intro wD E sD;refine ab G G ?_;exact a00
  refine aI ?_ ?_
  ·intro wD E sD;refine aq (aW G hs.kR G ?_);exact a00
  refine aI ?_ ?_
  ·intro wD E sD;refine aq ?_;refine ar (M:=M) (A:=RT.se) (B:=(RT.di).ptr) Tryz.underlying215 G G ai9 q0 se2 G G q0 hs sD.le (λuf tH=>?_);exact a69
  refine aI ?_ ?_
  ·intro wD E sD;intro v2 CO;refine bP Tryz.underlying213 G G G G G (show cR ((RT.di).ptr) M wD v2 s.2.2 from CO) cf (λvd hvd=>?_);exact ad ⟨G,G,_,G,H5.1 hvd,aV⟩
  refine aI ?_ ?_
  ·intro wD E sD;refine cv (M:=M) (A:=RT.fd) bK G mi q0 G G G dF sD.le (λvt hvt=>?_);obtain rfl:=kh hvt;exact a00
  refine aI ?_ ?_
  ·intro wD E sD;refine aq ?_;refine aQ G G E95 (J0 (t:=t) _ (sD.lt hM) h1 h2) (λr5 w5 hc=>?_);obtain⟨rfl,s5⟩:=hc;exact ad ⟨G,G,_,G,G,s5⟩
  refine aI ?_ ?_
  ·intro wD E sD;intro v3 uQ;refine aq (aq ?_);refine aQ rfl rfl aja (find_spec (k:=cZ t) _ (sD.lt hM) (show cR RT.di M wD v3 s.2.2 from uQ) Og (by rw[hls,bW];exact hdl)) (λr6 w6 hc=>?_);obtain⟨s6,hr⟩:=hc;refine ad ⟨G,G,_,G,?_,s6⟩;rcases hr with⟨j,p,tl,rfl,h3,h4,h5⟩|⟨rfl,h3⟩
   ·exact⟨p,by rw[decide_eq_true (ao h3)],.inl ⟨j,tl,h3,h4,h5⟩⟩
   ·exact⟨_,by rw[decide_eq_false h3],.inr ⟨rfl,h3⟩⟩
  refine aI ?_ ?_
  ·intro wD E sD;intro v6 p9;refine ab G G ?_;exact ad ⟨G,G,_,G,p9,aV⟩
  refine aI ?_ ?_
  ·intro wD E sD;intro v7 Gd;obtain⟨p,rfl,hp⟩:=Gd;refine cq G G G ?_;exact ad ⟨G,G,_,G,hp,aV⟩
  refine aI ?_ ?_
  ·intro wD E sD;intro v7 Gd;obtain⟨p,rfl,hp⟩:=Gd;refine cq G G G ?_;exact a00
  refine aI ?_ ?_
  ·intro wD E sD;intro v8 CP;intro v6 p9;refine aq (aq ?_);intro v2 CO;intro v3 uQ;refine aq (aq ?_);intro v6 p9;intro v7 Gd;intro v8 CP;refine aF G G ?_;exact ad ⟨G,G,_,G,CP,aV⟩
  refine aI ?_ ?_
  ·intro wD E sD;refine aq ?_;intro v10 sh;refine aq (aq ?_);intro v2 CO;intro v3 uQ;refine aq (aq ?_);intro v6 p9;intro v7 Gd;intro v8 CP;refine aq ?_;intro v10 sh;refine aF G G ?_;exact a00
  exact zV
 ·intro Jp lN;refine aq (aq ?_);intro abp Ik;intro V0 H7;refine aq (aq ?_);intro arY anv;intro aa0 NP;intro arZ anw;refine aq ?_;intro abD GX;refine aq ?_;replace GX:wu s.2.2 (cZ t) M abD Jp:=GX;have hF:=GX;replace hM:=lN.lt hM;replace S:=S.ax lN;replace hs:=hs.le q0 lN.le;replace dF:=dF.le q0 lN.le;refine T.aP (ab G G ?_)
  refine aQ G G ajb (ED (l:=RO s.2.2.1 ls (cZ t)) _ hM (by
   rcases hF with⟨j,tl,Yk,vP,sN⟩|⟨h,jB⟩
   ·rw[hls,eN]at vP;obtain⟨l,hl1,rfl⟩:=Option.map_eq_some_iff.1 vP;exact .inl (by rw[Oj Og.nodup Yk hl1];exact sN)
   ·exact .inr ⟨h,Ex jB⟩)) (λr2 w2 hc=>?_)
  obtain⟨bc,rfl,hbc,s2,jO⟩:=hc;refine Rg.bg G G (aJ ?_);exact aM G G ⟨bc,G,by have:=S.size;omega,S.ax s2,jO⟩
end Go.K
namespace Go.K
open Go.Proofs
namespace TKErsB
theorem RS:Enters Tryz.prog 163:=enters Tryz.func163 rfl q0
theorem GY:Enters Tryz.prog 164:=enters Tryz.func164 rfl q0
end TKErsB
open TKErsB
set_option maxRecDepth 10000
structure OkC (l:List Po):Prop where
 may:ez (-1) l=true
 ps:∀p∈l,p.2.length<=1099511627776
 by_:(ei (-1) l).length<=1099511627776
 ln:l.length<=1099511627776
theorem Ou {L:List En} (hF:∀e∈L,iC e.1) (hn:L.length<=1000000) (k:List UInt8):OkC (pk L k):=by
 have h1:=uU k L 0 hF;have tD:ez (-1) (pk L k)=true:=xn k L 0 (-1) hF hV hV;have rB:∀p∈pk L k,p.2.length<=500:=λp hp=>(h1.2 p hp).2.2
 obtain⟨h2,h3⟩:=uV (pk L k) (-1) 500 hV tD rB hV;have hl:(pk L k).length<=L.length:=h1.1;exact⟨tD,λp hp=>by have:=rB p hp;omega,by omega,by omega⟩
end Go.K
namespace Go.K
open Go.Proofs
namespace TKBldJ
theorem JX:TI Tryz.prog 112 (.slice none 0 0) 1 24:=by unfold TI;kernel_rfl
theorem RE:TI Tryz.prog 114 (.agg #[(.slice none 0 0),(.slice none 0 0),(.slice none 0 0),(.slice none 0 0)]) 4 96:=by unfold TI;kernel_rfl
theorem kn:TI Tryz.prog 117 (.slice none 0 0) 1 24:=by unfold TI;kernel_rfl
theorem E48:Enters Tryz.prog 48:=enters Tryz.func48 rfl q0
theorem E49:Enters Tryz.prog 49:=enters Tryz.func49 rfl q0
theorem E50:Enters Tryz.prog 50:=enters Tryz.func50 rfl q0
theorem E51:Enters Tryz.prog 51:=enters Tryz.func51 rfl q0
theorem E52:Enters Tryz.prog 52:=enters Tryz.func52 rfl q0
end TKBldJ
open TKBldJ
set_option maxRecDepth 10000
set_option maxHeartbeats 4000000 in
theorem zc {M:aH} {L:List En} {v0:Value} (w0:World) (hM:Lt M w0) (hv:(RT.en.sl).V M w0 L v0) (hl:∀e∈L,∀f∈e.1.2,f.1.length<=900000/\f.2.length<=900000) (hn:L.length<=100000) (eZ:wo (-1) L=true):
  Spec Tryz.prog 11 #[v0] w0 (λv w=>∃s,v= .tuple #[s,.int .i64 0]/\cR RT.se M w s (GM (ju L))/\Step M w0 M w aE):=by
 have iF:=hM;have hF:=lY eZ
 have Ys:(keysOf L).length<=500000000:=by
  have h1:=(oC L).nodup.length_le_of_subset (l₂:=jo L) (λx hx=>lU.1 hx);have:=uW hF;omega
 have BX:∀k∈keysOf L,k.length<=43:=λk hk=>we hF k (lU.1 hk)
 refine a8 (args:=[_]) (fn:=Tryz.f11) Tryz.func11 G (n:=63) Tryz.ntmps11 ?_;have S:Step M w0 M w0 aE:=aV;refine T.aP (aF G G (Rg.bg G G (T.aP ?_)));refine aQ G G E48 (Nt (Z:=λk=>w0.heap.size<=k) (B:=w0.heap.size) _ hM (br _) (λk hk=>hk)) (λr1 w1 hc=>?_);obtain⟨M1,b1,rfl,_,gO,s1⟩:=hc;replace gO:=gO.JO (Z':=λk=>w0.heap.size<=k/\k<w1.heap.size) (λc hc eK=>⟨hc,eK⟩);replace hv:=hv.le s1.le;replace hM:=s1.lt hM;have:=S.size;replace S:=S.ax s1;refine Rg.bg G G (T.aP ?_);refine ec M1 RE G (λgx Vp agr ags Dy yq=>?_);obtain⟨L9,yt⟩:∃M',M'=ins M1 gx:=⟨_,rfl⟩;rw[<-yt]at yq;have yu:L9 gx:=by rw[yt];exact .inl G
 change Vp.heap[gx]? =some (.cells #[.slice none 0 0,.slice none 0 0,.slice none 0 0,.slice none 0 0] _ _)at Dy;replace hv:=hv.le yq.le;replace gO:=gO.bM yq;replace hM:=yq.lt hM;have:=S.size;replace S:=S.ax yq;refine ad (aN (T.aP (ab G G (bN gT G hv G (ab G G (ad (aY ?_)))))));refine dz (σ:=Nat×Value×Value) (λq=>[(4,.pointer (some ⟨b1,0,none⟩)),(5,.pointer (some ⟨gx,0,none⟩)),(12,v0),(13,.int .i64 (L.length:Int)),(14,.int .i64 (q.1:Int))]) (λq w=>∃M' words,Lt M' w/\Step M w0 M' w aE/\(RT.en.sl).V M' w L v0/\nL (ZP w0.heap.size gx q.2.1 q.2.2) M' w w0.heap.size b1 (L.take q.1) words (mJ (-1) (L.take q.1))/\w.heap[gx]? =some (.cells #[q.2.1,q.2.2,.slice none 0 0,.slice none 0 0] 114 (0,0))/\M' gx/\Own (RT.int .i64) 3 M' w w0.heap.size q.2.1 ((L.take q.1).map (·.1.1))/\Own (RT.int .i64) 3 M' w w0.heap.size q.2.2 ((L.take q.1).map (·.2))/\j6 q.2.1 q.2.2/\0<=words/\words<=500*(q.1:Int)/\q.1<=L.length) (λq=>L.length-q.1) (0,.slice none 0 0,.slice none 0 0) a65 ?_ ?_
 ·exact⟨_,0,hM,S,hv,gO.JO (Z':=ZP w0.heap.size gx (.slice none 0 0) (.slice none 0 0)) (λc hc eK=>⟨hc.1,(λh=>by have:=hc.2;omega),(λh=>by cases h),(λh=>by cases h)⟩),Dy,yu,eG _ _ _ _ _,eG _ _ _ _ _,j6.nil _,by omega,by omega,bm _⟩
 ·clear hM S hv gO;rintro⟨i,vi,vs⟩ w ⟨M2,words,hM,S,hv,gO,g2,dP,mR,mZ,Ra,hw1,hw2,hi⟩;dsimp only at gO g2 mR mZ Ra hw2 hi ⊢;refine T.aP (cy G G G (ad (aN ?_)));refine bF G (λc4=>?_) (λc4=>?_)
  ·refine aR (aN (aY (T.aP ?_)));refine cD gT FN G G G hv cf hV (λu5 e Jo wL=>?_);rw[aw]at Jo;obtain⟨TQ,W2⟩:=Oe eZ Jo;have hem:=ao Jo;refine cv (A:=RT.en) ef G FN q0 G G G wL cf (λv5 pF=>?_);obtain⟨Yz,Sy⟩:=WQ pF;refine oQ (A:=RT.en) (M:=M2) FN G G G G G Ub cf hM (λaa4 ar5 tF EE ar6=>?_);have:=ae g2;replace dP:=(EE.mem _ this).2 dP;replace g2:=EE.aB g2;replace hv:=hv.le EE.le;replace mR:=mR.bM EE;replace mZ:=mZ.bM EE;replace gO:=gO.bM EE;replace hM:=EE.lt hM;have:=S.size;replace S:=S.ax EE;refine ad (aN (T.aP (ab G G ?_)));refine cv (A:=RT.en) ef G FN q0 G G G tF cf (λv6 p9=>?_);refine aQ G G E49 (Nv (Z:=ZP w0.heap.size gx vi vs) _ hM (λk hk=>⟨by have:=S.size;omega,λh=>by have:=ae g2;omega,λh=>by have:=(mR.base k h).2;omega,λh=>by have:=(mZ.base k h).2;omega⟩) gO ad8 p9 (hl e hem) (λx hx=>hF x (List.mem_of_mem_take hx)) a08 hV) (λr6 w6 hc=>?_);obtain⟨M6,NK,s6,rfl,_,UF⟩:=hc;replace gO:=UF TQ;have Tr:(sF e).length<=500:=(hF e hem).many;refine bh (v':= .int .i64 0) (by rw[TQ]) ?_;replace mR:=mR.step s6 (λc hc h=>h.1.2.2.1 hc);replace mZ:=mZ.step s6 (λc hc h=>h.1.2.2.2 hc);replace dP:=(s6.mem _ (ae g2)).2 dP;replace g2:=s6.bR g2 (λh=>h.1.2.1 rfl);replace hv:=hv.le s6.le;replace tF:=tF.le q0 s6.le;replace S:=S.ch s6 (λk hk=>hk.1.1);replace hM:=NK;rw[W2.symm]at gO;refine Rg.bg G G (T.aP (ab G G (eW G G G (ad (T.IN G ((λh=>h rfl)) (aR ?_))))));have g2p:=g2;have abE:=dP;have hvp:=hv;have abF:=gO;have Ov:=mR;have Ow:=mZ;have hMp:=hM;have Sp:=S;obtain⟨P6,hP6⟩:∃P6:Value->World->Prop,P6=λv w'=>Own (RT.int .i64) 3 (qG v) w' w0.heap.size v ((L.take i).map (·.1.1)++[e.1.1])/\(∀c,v.ownBlock=some c->w6.heap.size<=c\/vi.ownBlock=some c):=⟨_,rfl⟩
   have h6:∀{v:Value} {w w':World},P6 v w->Step M6 w M6 w' aE->P6 v w':=λ{v w w'} h s=>by rw[hP6]at h ⊢;exact⟨h.1.TN s (λ_ _ h=>h),h.2⟩
   apply T.TM (M:=M6) [0,1,2,3,4,5,6,7,8,9,10,11,13,12,14,15,16] 13 12 37 (.pointer (some ⟨gx,0,none⟩)) [(6,me vi)] [cj.eq (.pointer (some ⟨gx,0,none⟩)),cj.eq vi,cj.ptr RT.dc e.1,cj.ptr (RT.int .i64) e.1.1,cj.eq (.int .i64 e.1.1),cj.V ((RT.int .i64).sl) [e.1.1],(cj.mk' (λv w=>P6 v w) (λh s=>h6 h s)),cj.eq (.pointer (some ⟨gx,1,none⟩)),cj.eq vs,cj.ptr (RT.int .i64) e.2,cj.eq (.int .i64 e.2),cj.V ((RT.int .i64).sl) [e.2],cj.eq (.pointer (some ⟨gx,0,none⟩))] [] mixed
   ·simp+decide only[AH,uz,fe,zR,zN,zO,uj,fA,pB,List.idxOf_cons,cond_true,cond_false,Nat.reduceBEq,Nat.reduceAdd,beq_self_eq_true];rfl
   ·rfl
   ·rfl
   ·rfl
   ·rfl
   ·rfl
   ·rfl
   ·rfl
   ·rfl
   ·rfl
   ·rfl
   ·rfl
   ·exact λρ w h _=>GR (size:=1) (o:=0) (o':=0) dq G G pb q0 (h (.tmp 5) _ G) w
   ·exact λg hg=>by cases hg
   ·intro p hp b hb;simp only[cY,List.not_mem_nil,or_false]at hp;subst hp;exact mR.mut_ b hb
   ·exact λp hp=>by
     simp only[cY,List.not_mem_nil,or_false]at hp;subst hp;show(6:Nat)≠12;decide
   ·exact qD.st (by exact⟨λ_ _ _ _=>trivial,⟨λ_ _ _ _=>trivial,⟨λ_ _ _ _=>trivial,⟨λ_ _ _ _=>trivial,⟨λ_ _ _ _=>trivial,⟨λ_ _ _ _=>trivial,⟨λp hp b hb=>(by simp at hp),⟨λ_ _ _ _=>trivial,⟨λ_ _ _ _=>trivial,⟨λ_ _ _ _=>trivial,⟨λ_ _ _ _=>trivial,⟨λ_ _ _ _=>trivial,⟨λ_ _ _ _=>trivial,trivial⟩⟩⟩⟩⟩⟩⟩⟩⟩⟩⟩⟩⟩)
   intro wR9 sA9;have Ox:=sA9 M6;have:=ae g2;replace dP:=(Ox.mem _ this).2 dP;replace g2:=Ox.aB g2;replace hv:=hv.le Ox.le;replace tF:=tF.le q0 Ox.le;replace mR:=mR.bM Ox;replace mZ:=mZ.bM Ox;replace gO:=gO.bM Ox;replace hM:=Ox.lt hM;have:=S.size;replace S:=S.ax Ox;have g2R:=g2;have abG:=mR;have asa:=mZ;have hz6:=Ox.size;refine⟨?_,?_⟩
   ·refine ay ?_ ?_
    ·intro wD E sD;replace sD:Step M6 _ M6 wD (me vi):=sD;refine aT (o':=0) dq G G pb q0 G G ?_;exact a00
    refine ay ?_ ?_
    ·intro wD E sD;replace sD:Step M6 _ M6 wD aE:=sD;refine aq (aG av G G G (sD.aB g2R) G ?_);exact a00
    refine ay ?_ ?_
    ·intro wD E sD;replace sD:Step M6 _ M6 wD (me vi):=sD;refine ar (M:=M6) (A:=RT.en) (B:=RT.dc) ef G G om q0 Zj G G q0 tF sD.le (λuf tH=>?_);exact a69
    refine ay ?_ ?_
    ·intro wD E sD;replace sD:Step M6 _ M6 wD (me vi):=sD;intro v2 CO;refine ar (A:=RT.dc) (B:=RT.int .i64) bp G G I3 q0 Zi G G q0 (show cR RT.dc M6 wD v2 e.1 from CO) cf (λuf tH=>?_);exact a69
    refine ay ?_ ?_
    ·intro wD E sD;replace sD:Step M6 _ M6 wD (me vi):=sD;intro v3 uQ;refine b4 ak G G (show cR (RT.int .i64) M6 wD v3 e.1.1 from uQ) cf (λkO=>?_);exact a00
    refine ay ?_ ?_
    ·intro wD E sD;replace sD:Step M6 _ M6 wD aE:=sD;refine aq ?_;refine fp (A:=RT.int .i64) (hn:=by decide) (M:=M6) av I3 q0 G G (sD.lt hM) (gV Yz) (.inr ⟨G,G⟩) (λuS wS hS sS=>?_);exact ad ⟨G,G,_,G,hS,sS⟩
    refine ay ?_ ?_
    ·intro wD E sD;replace sD:Step M6 _ M6 wD aE:=sD;refine aq ?_;intro v5 pF;replace sD:Step M6 wR9 M6 wD aE:=sD;refine Rg.mv (M:=M6) (base:=w0.heap.size) av I3 rfl rfl rfl rfl (abG.bM sD) (show((RT.int .i64).sl).V M6 wD [e.1.1] v5 from pF) cf a08 a08 (by have:=sD.size;have:=S.size;omega) (λvA wA hoA sA hFA=>?_);exact ad ⟨G,G,_,G,by show P6 vA wA;rw[hP6];exact⟨hoA.lone,λc hc=>(hFA c hc).elim (λh=> .inl (by have:=sD.size;omega)) .inr⟩,sA.back⟩
    refine ay ?_ ?_
    ·intro wD E sD;replace sD:Step M6 _ M6 wD (me vi):=sD;refine aT (o':=1) dq G G pb q0 G G ?_;exact a00
    refine ay ?_ ?_
    ·intro wD E sD;replace sD:Step M6 _ M6 wD (me vi):=sD;refine aq (aG av G G G (sD.bR g2R (λh=>abG.fx g2R q0 h)) G ?_);exact a00
    refine ay ?_ ?_
    ·intro wD E sD;replace sD:Step M6 _ M6 wD (me vi):=sD;refine ar (M:=M6) (A:=RT.en) (B:=RT.int .i64) ef G G I3 q0 en1 G G q0 tF sD.le (λuf tH=>?_);exact a69
    refine ay ?_ ?_
    ·intro wD E sD;replace sD:Step M6 _ M6 wD (me vi):=sD;intro v9 JB;refine b4 ak G G (show cR (RT.int .i64) M6 wD v9 e.2 from JB) cf (λkO=>?_);exact a00
    refine ay ?_ ?_
    ·intro wD E sD;replace sD:Step M6 _ M6 wD (me vi):=sD;refine aq ?_;refine fp (A:=RT.int .i64) (hn:=by decide) (M:=M6) av I3 q0 G G (sD.lt hM) (gV Sy) (.inr ⟨G,G⟩) (λuS wS hS sS=>?_);exact ad ⟨G,G,_,G,hS,sS⟩
    refine ay ?_ ?_
    ·intro wD E sD;replace sD:Step M6 _ M6 wD (me vi):=sD;refine aq (aq ?_);intro v2 CO;intro v3 uQ;refine aq ?_;intro v5 pF;intro v6 p9;refine aq (aq (aT (o':=0) dq G G pb q0 G G ?_));exact a00
    exact jS
   ·intro Yu Ig;replace Ig:Step M6 _ M6 Yu (me vi):=Ig;refine aq (aq ?_);intro ahm Nx;intro asd anA;refine aq ?_;intro ase anB;intro Cq Il;refine aq (aq ?_);intro asf anC;refine aq ?_;intro abH GZ;refine aq ?_;replace Il:P6 Cq Yu:=Il;rw[hP6]at Il;obtain⟨yK,hb9⟩:=Il;replace GZ:((RT.int .i64).sl).V M6 Yu [e.2] abH:=GZ;have sX:Step M6 w6 M6 Yu (me vi):=(Ox.ek a18 (λb h=>Ov.mut_ b h)).trans Ig (λb _ h=>h);have ajf:=Ow.step sX (λc hc h=>Ra c h hc);refine Rg.mv (M:=M6) (base:=w0.heap.size) av I3 rfl rfl rfl rfl ajf GZ cf a08 a08 (by have:=Sp.size;have:=sX.size;omega) (λv12 Me ajg mF abI=>?_)
    have MU:∀c,Cq.ownBlock=some c->vs.ownBlock≠some c:=λc hc hv=>by
     rcases hb9 c hc with h|h
     ·have:=(Ow.base c hv).2;omega
     ·exact Ra c h hv
    have abJ:=yK.TN mF (λc hc h=>MU c hc h)
    have abK:j6 v12 Cq:=λc hc RU=>by
     rcases abI c hc with h|h
     ·have:=(yK.base c RU).2;omega
     ·exact MU c RU h
    have RR:∀c,v12.ownBlock=some c->w6.heap.size<=c\/vs.ownBlock=some c:=λc hc=>(abI c hc).elim (λh=> .inl (by have:=sX.size;omega)) .inr
    have sZ:Step M6 w6 (lx M6 v12) Me (λk=>me vi k\/me vs k):=(sX.ek (λ_ h=> .inl h) (λb h=>h.elim (Ov.mut_ b) (Ow.mut_ b))).trans mF (λb _ h=> .inr h);obtain⟨M12,W3⟩:∃M',M'=lx (lx M6 v12) Cq:=⟨_,rfl⟩;have sW:Step M6 w6 M12 Me (λk=>me vi k\/me vs k):=by rw[W3];exact sZ.aiK (λc hc=>⟨(abJ.base c hc).2,(hb9 c hc).elim .inl (λh=> .inr (.inr (Ov.mut_ c h)))⟩)
    have mR:=abJ.QG (M':=M12) (by rw[W3];exact λb hb=> .inl hb);have mZ:=ajg.QG (M':=M12) (by rw[W3];exact λb hb=> .inr (.inl hb));have dP:=(sW.mem _ (ae g2p)).2 abE;have g2:=sW.bR g2p (λh=>h.elim (Ov.fx g2p q0) (Ow.fx g2p q0));have gO:=((abF.JO (Z':=λk=>ZP w0.heap.size gx vi vs k/\ZP w0.heap.size gx Cq v12 k) (λc hc eK=>⟨hc,hc.1,hc.2.1,λh=>(hb9 c h).elim (λh=>by omega) hc.2.2.1,λh=>(RR c h).elim (λh=>by omega) hc.2.2.2⟩)).step sW (λk hk hz=>hk.elim hz.1.2.2.1 hz.1.2.2.2)).JO (Z':=ZP w0.heap.size gx Cq v12) (λc hc _=>hc.2);have hv:=hvp.le sW.le;have S:=Sp.ch sW (λk hk=>hk.elim (λh=>(Ov.base k h).1) (λh=>(Ow.base k h).1));have hM:=sW.lt hMp;refine ad ⟨G,G,λh=>absurd G h,?_⟩;refine cg (M:=M12) pb rfl rfl g2 rfl (by obtain⟨_,_,he,_⟩:=mR.isSlice;rw[he];rfl) dP (λMF g14 jn=>?_);replace g14:MF.heap[gx]? =some (.cells #[Cq,vs,.slice none 0 0,.slice none 0 0] 114 (0,0)):=g14;replace mR:=mR.step jn (λc hc (h:c=gx)=>mR.fx g2 q0 (h▸hc));replace mZ:=mZ.step jn (λc hc (h:c=gx)=>mZ.fx g2 q0 (h▸hc));replace dP:=(jn.mem _ (ae g2)).2 dP;replace gO:=gO.step jn (λk (hk:k=gx) hz=>hz.2.1 hk);replace hv:=hv.le jn.le;replace S:=S.ch jn (λk (hk:k=gx)=>by rw[hk];omega);replace hM:=jn.lt hM;clear g2;have g2:=g14;refine ad ⟨G,G,λh=>absurd G h,aT (o':=1) dq G G pb q0 G G (ad ⟨G,G,λh=>absurd G h,?_⟩)⟩;refine cg (M:=M12) pb rfl rfl g2 rfl (by obtain⟨_,_,he,_⟩:=mZ.isSlice;rw[he];rfl) dP (λTF g16 GK=>?_);replace g16:TF.heap[gx]? =some (.cells #[Cq,v12,.slice none 0 0,.slice none 0 0] 114 (0,0)):=g16;replace mR:=mR.step GK (λc hc (h:c=gx)=>mR.fx g2 q0 (h▸hc));replace mZ:=mZ.step GK (λc hc (h:c=gx)=>mZ.fx g2 q0 (h▸hc));replace dP:=(GK.mem _ (ae g2)).2 dP
    replace gO:=gO.step GK (λk (hk:k=gx) hz=>hz.2.1 hk);replace hv:=hv.le GK.le;replace S:=S.ch GK (λk (hk:k=gx)=>by rw[hk];omega);replace hM:=GK.lt hM;clear g2;have g2:=g16;refine ad ⟨G,G,λh=>absurd G h,rq (aL (bB G G G hV (ab G G (ad ?_))))⟩;have et:L.take (i+1)=L.take i++[e]:=by rw[bX,Jo,dx]
    rw[et]at gO;refine⟨G,(i+1,Cq,v12),a65,?_,?_⟩
    ·exact⟨_,_,hM,S,hv,by rw[et];exact gO,g2,dP,by rw[et,eu];exact mR,by rw[et,eu];exact mZ,abK.symm,by omega,by dsimp only;omega,by dsimp only;omega⟩
    ·dsimp only;omega
  ·refine cQ (T.aP ?_);have hLi:L.take i=L:=bD hV;rw[hLi]at gO mR mZ;refine ab G G ?_;refine aQ G G E50 (Gw _ hM gO hF hV) (λrk w11 hc=>?_);obtain⟨Be,yZ⟩:=hc;have:=ae g2;replace dP:=(yZ.mem _ this).2 dP;replace g2:=yZ.aB g2;replace hv:=hv.le yZ.le;replace mR:=mR.bM yZ;replace mZ:=mZ.bM yZ;replace gO:=gO.bM yZ;replace hM:=yZ.lt hM;have:=S.size;replace S:=S.ax yZ;refine aT (o':=2) dq G G vS q0 G G ?_;refine cg (M:=M2) vS G G g2 G (jl Be G G) dP (λDM dn fN=>?_);change DM.heap[_]? =some (Obj.cells #[vi,vs,rk,.slice none 0 0] _ _)at dn;have:=ae g2;replace dP:=(fN.mem _ this).2 dP;replace hv:=hv.le fN.le;replace Be:=Be.le fN.le;replace mR:=mR.step fN (λc hc (h:c=gx)=>mR.fx g2 q0 (h▸hc));replace mZ:=mZ.step fN (λc hc (h:c=gx)=>mZ.fx g2 q0 (h▸hc));replace gO:=gO.stepT fN a34;replace hM:=fN.lt hM;have:=S.size;replace S:=S.trans fN (λk hk h=>by have h:_=_:=h;subst h;first|(exfalso;omega)|(show _<=_;omega)|exact⟨by first|omega|assumption,(S.mem _ hk).1 ((fN.mem _ (ae g2)).1 dP)⟩|exact .inl rfl|exact .inr rfl|exact .inr (.inl rfl)|exact .inr (.inr rfl)|exact .inr (.inr (.inl rfl))|exact rfl);have MI:=dn;clear g2;have g2:=MI;clear MI;refine ad (aN (T.aP (aT (o':=2) dq G G vS q0 G G (aG aD G G G g2 G (bh (v':=rk) G (bN aD G Be G (ab G G (ad (aY ?_)))))))));refine dz (σ:=Nat×Value) (λq=>[(4,.pointer (some ⟨b1,0,none⟩)),(5,.pointer (some ⟨gx,0,none⟩)),(44,rk),(45,.int .i64 ((keysOf L).length:Int)),(46,.int .i64 (q.1:Int))]) (λq w=>∃M',Lt M' w/\Step M w0 M' w aE/\nL (ZP w0.heap.size gx vi vs) M' w w0.heap.size b1 L words (mJ (-1) L)/\w.heap[gx]? =some (.cells #[vi,vs,rk,q.2] 114 (0,0))/\M' gx/\Own (RT.int .i64) 3 M' w w0.heap.size vi (L.map (·.1.1))/\Own (RT.int .i64) 3 M' w w0.heap.size vs (L.map (·.2))/\Own ((RT.po).sl) 117 M' w w0.heap.size q.2 (((keysOf L).take q.1).map (pk L))/\(RT.str.sl).V M' w (keysOf L) rk/\q.1<=(keysOf L).length) (λq=>(keysOf L).length-q.1) (0,.slice none 0 0) a65 ?_ ?_
   ·exact⟨_,hM,S,gO,g2,dP,mR,mZ,eG _ _ _ _ _,Be,bm _⟩
   ·clear hM S gO g2 dP mR mZ Be hv;rintro⟨i3,vl⟩ w ⟨M3,hM,S,gO,g2,dP,mR,mZ,re,Be,hi3⟩;dsimp only at g2 re hi3 ⊢;refine T.aP (cy G G G (ad (aN ?_)));refine bF G (λJz=>?_) (λJz=>?_)
    ·refine aR (aN (aY (T.aP ?_)));refine cD aD I9 G G G Be cf hV (λKS k W4 si=>?_);rw[aw]at W4;refine bP aA G G G G G si cf (λvk hvk=>?_);obtain rfl:=ep hvk;refine Rg.bg G G ?_;apply T.pM 4 [0,1] 2 aE mixed rfl rfl rfl rfl;intro Wo NO;have pw:=NO M3;have:=ae g2;replace dP:=(pw.mem _ this).2 dP;replace g2:=pw.aB g2;replace Be:=Be.le pw.le;replace mR:=mR.bM pw;replace mZ:=mZ.bM pw;replace re:=re.bM pw;replace gO:=gO.bM pw;replace hM:=pw.lt hM;have:=S.size;replace S:=S.ax pw;refine aT (o':=3) dq G G JX q0 G G (Rg.dm (aG Tryz.underlying112 G G G (by first|assumption|exact bY pw Ub) G (Rg.dm (ab G G (Rg.dm (ab G G (Rg.dm (gm (⟨j1 ⟨jP dq G JX q0,⟨gD G g2 (λh=>h),trivial⟩⟩,?_⟩)))))))));have kp:=l9 aE Wo;refine aQ G G E51 (Gx (k:=k) _ hM gO hF hV (by have:=BX k (ao W4);omega)) (λr15 F7 hc=>?_);obtain⟨Nz,oy⟩:=hc;have:=ae g2;replace dP:=(oy.mem _ this).2 dP;replace g2:=oy.aB g2;replace Be:=Be.le oy.le;replace mR:=mR.bM oy;replace mZ:=mZ.bM oy;replace re:=re.bM oy;replace gO:=gO.bM oy;replace hM:=oy.lt hM;have:=S.size;replace S:=S.ax oy;refine(fun(kp:fI _ _ _)=>ad ⟨G,G,λ_=>kp,?_⟩) a01;refine fp (A:=((RT.po).sl)) (hn:=by decide) (M:=M3) Tryz.underlying112 kn q0 G G hM (Nz) (.inr ⟨G,G⟩) (λanD Tz zd jK=>?_);have:=ae g2;replace dP:=(jK.mem _ this).2 dP;replace g2:=jK.aB g2;replace Be:=Be.le jK.le
     replace Nz:=Nz.le jK.le;replace mR:=mR.bM jK;replace mZ:=mZ.bM jK;replace re:=re.bM jK;replace gO:=gO.bM jK;replace hM:=jK.lt hM;have:=S.size;replace S:=S.ax jK;refine(fun(kp:fI _ _ _)=>ad ⟨G,G,λ_=>kp,?_⟩) a01;refine dH (M:=M3) (base:=w0.heap.size) Tryz.underlying112 kn rfl rfl rfl rfl re zd cf a08 a08 (S.size) (λTR abM anE W5 ri=>?_);have:=ae g2;replace dP:=(ri.mem _ this).2 dP;replace g2:=ri.bR g2 (λh=>by first|exact re.eD g2 h|exact re.fx g2 q0 h|(have:=(re.base _ h).1;omega));replace Be:=Be.le ri.le;replace Nz:=Nz.le ri.le;replace zd:=zd.le ri.le;replace mR:=mR.step ri (λb h1 h2=>mR.iZ re q0 h1 h2);replace mZ:=mZ.step ri (λb h1 h2=>mZ.iZ re q0 h1 h2);replace gO:=gO.stepT ri a34;replace hM:=ri.lt hM;have:=S.size;replace S:=S.dR ri re (br _);replace re:=W5;refine ad ⟨G,G,λh=>absurd G h,aT (o':=3) dq G G JX q0 G G (ad ⟨G,G,λh=>absurd G h,?_⟩)⟩;refine cg (M:=abM) JX rfl rfl g2 rfl (by obtain⟨_,_,he,_⟩:=re.isSlice;rw[he];rfl) dP (λabN TS qf=>?_);change abN.heap[_]? =some (Obj.cells #[vi,vs,rk,TR] _ _)at TS;have:=ae g2;replace dP:=(qf.mem _ this).2 dP;replace Be:=Be.le qf.le;replace Nz:=Nz.le qf.le;replace zd:=zd.le qf.le;replace mR:=mR.step qf (λc hc (h:c=gx)=>mR.fx g2 q0 (h▸hc));replace mZ:=mZ.step qf (λc hc (h:c=gx)=>mZ.fx g2 q0 (h▸hc))
     replace re:=re.step qf (λc hc (h:c=gx)=>re.fx g2 q0 (h▸hc));replace gO:=gO.stepT qf a34;replace hM:=qf.lt hM;have:=S.size;replace S:=S.trans qf (λk hk h=>by have h:_=_:=h;subst h;first|(exfalso;omega)|(show _<=_;omega)|exact⟨by first|omega|assumption,(S.mem _ hk).1 ((qf.mem _ (ae g2)).1 dP)⟩|exact .inl rfl|exact .inr rfl|exact .inr (.inl rfl)|exact .inr (.inr rfl)|exact .inr (.inr (.inl rfl))|exact rfl);have MI:=TS;clear g2;have g2:=MI;clear MI;refine ad ⟨G,G,λh=>absurd G h,rq (aL (bB G G G hV (ab G G (ad ?_))))⟩;refine⟨G,(i3+1,TR),a65,?_,?_⟩
     ·exact⟨_,hM,S,gO,g2,dP,mR,mZ,by rw[bX,W4,dx,eu];exact re,Be,by dsimp only;omega⟩
     ·dsimp only;omega
    ·refine cQ (T.aP (eC (vs:=[vi,vs,rk,vl]) dq G RE G G G g2 ?_));rw[bD hV]at re;have hpa:RT.pa.V M _ (ju L) _:=ag9 (x:=ju L) (mR.close iF S (by show(L.map _).length<=_;rw[bW];omega)) (mZ.close iF S (by show(L.map _).length<=_;rw[bW];omega)) (Be.le (nT iF S)) (re.close iF S (by show((keysOf L).map _).length<=_;rw[bW];omega));replace S:=S.back;replace hM:=S.lt iF;refine aQ G G E52 (GP (p:=ju L) _ hM hpa (RJ hF hV)) (λr17 w17 hc=>?_);obtain⟨s17,abO,_⟩:=hc;obtain⟨sg,rfl,B0⟩:=abO (WO eZ hV);replace S:=S.ax s17;refine cq G G G (cq G G G (aF G G (Rg.bg G G (aJ ?_))));exact eX G G G ⟨sg,G,B0,S⟩
end Go.K
namespace Go.K
open Go.Proofs
set_option maxRecDepth 10000
theorem vu {id:Int}:∀(fs:List Fd) (i:Nat) (out:List Fd),mj (id,out)=0->mj (id,nG id i out fs)=0
 |[],_,_,h=>h
 |x::fs,i,out,h=>by
  unfold nG
  split
  ·split
   ·rename_i h1;exact vu fs _ _ h1
   ·exact vu fs _ _ h
  ·exact h
theorem oL {id:Int}:∀(fs:List Fd) (i:Nat) (out:List Fd),rW out->rW (nG id i out fs)
 |[],_,_,h=>h
 |x::fs,i,out,h=>by
  unfold nG
  split
  ·rename_i hi
   split
   ·exact oL fs _ _ (h.snoc (yD x hi))
   ·exact oL fs _ _ h
  ·exact h
theorem J3 (d:Dc):mj (oX d)=0:=vu d.2 0 [] rfl
theorem EF (d:Dc):rW (oX d).2:=oL d.2 0 [] (λx h=>by cases h)
theorem EG {e:En}:∀{L:List En} {last:Int},wo last (L++[e])=(wo last L&&decide (mq (mJ last L) e=0))
 |[],last=>by show(decide (mq last e=0)&&true)=(true&&decide (mq last e=0));rw[k5,dr]
 |x::L,last=>by rw[ng];show(decide (mq last x=0)&&wo x.2 (L++[e]))=(decide (mq last x=0)&&wo x.2 L&&decide (mq (mJ x.2 L) e=0));rw[EG (L:=L),Bool.and_assoc]
theorem ze {e:En}:∀{L:List En} {last:Int},mJ last (L++[e])=e.2
 |[],_=>rfl
 |x::L,last=>by simp only[ng,mJ];exact ze
theorem EH (l:List Dc) {a s:Int} (ha:0<=a) (hs:1<=s):∀k,wo (-1) (fO l a s k)=true/\mJ (-1) (fO l a s k)<a+s*(k:Int)
 |0=>⟨rfl,by show(-1:Int)<_;simp;omega⟩
 |k+1=>by
  obtain⟨h1,h2⟩:=EH l ha hs k;have e1:a+s*((k+1:Nat):Int)=a+s*(k:Int)+s:=by rw[Int.natCast_add,Int.mul_add];simp;omega
  cases h:l[k]? with
  |none=>rw[yI (List.getElem?_eq_none_iff.1 h),e1];exact⟨h1,by omega⟩
  |some d=>
   rw[yH h,EG,ze,h1,e1]
   have:mq (mJ (-1) (fO l a s k)) (oX d,a+s*(k:Int))=0:=by
    unfold mq;rw[if_neg (λh=>h (J3 d)),if_neg (by show¬(a+s*(k:Int)<=_);omega)]
   exact⟨by rw[this];rfl,by show a+s*(k:Int)<_;omega⟩
theorem Bf {l:List Dc} {a s:Int}:∀{k:Nat} {e:En},e∈fO l a s k->∃d,e.1=oX d
 |0,e,h=>by cases h
 |k+1,e,h=>by
  rw[fO]at h;rcases dw.1 h with h|h
  ·exact Bf h
  ·split at h
   ·rename_i d _;rw[cO.1 h];exact⟨d,G⟩
   ·cases h
theorem zf {l:List Dc} {a s:Int} {k:Nat}:∀e∈fO l a s k,∀f∈e.1.2,f.1.length<=900000/\f.2.length<=900000:=λe he f hf=>by
 obtain⟨d,hd⟩:=Bf he;rw[hd]at hf;have:=EF d f hf;omega
theorem Oy:words [97]=[[97]]:=by
 have h:dC [97]=[97]:=by rw[ke (by simp)];simp[dec,BU,jN,jI,lg]
 unfold words;rw[h];simp[eF];rfl
def dX (fs:List Fd) (k:List UInt8):List (List UInt8):=match fs.find? (λf=>decide (f.1=k))with|some f=>words f.2|none=>[]
theorem EI {fs:List Fd} {k:List UInt8} {i:Nat} {x:Fd} (h:fs[i]? =some x) (hx:x.1=k) (jB:∀(j:Nat) y,j<i->fs[j]? =some y->y.1≠k):dX fs k=words x.2:=by
 have:fs.find? (λf=>decide (f.1=k))=some x:=by
  induction fs generalizing i with
  |nil=>simp at h
  |cons y fs ih=>
   cases i with
   |zero=>simp at h;subst h;simp[hx]
   |succ i=>
    rw[List.find?_cons_of_neg (by simpa using jB 0 y hV rfl)];exact ih a81 (λj z hj hz=>jB (j+1) z hV (by simpa using hz))
 unfold dX;rw[this]
def jc (ws:List (List UInt8)) (x:List UInt8):List Int:=(ws.zipIdx.filter λp=>decide (p.1=x)).map λp=>(p.2:Int)
theorem J4 {ws:List (List UInt8)} {x y:List UInt8} {i:Nat} (h:ws[i]? =some y):jc (ws.take (i+1)) x=if y=x then jc (ws.take i) x++[(i:Int)]else jc (ws.take i) x:=by
 have hi:=(al.1 h).1;unfold jc;rw[bX,h,dx,List.zipIdx_append,gZ,eu];simp only[a7,xA (Nat.le_of_lt hi),nd,List.zipIdx_cons,List.zipIdx_nil];by_cases e:y=x
 ·rw[if_pos e];simp[e]
 ·rw[if_neg e];simp[e]
theorem EJ (ws:List (List UInt8)) (x:List UInt8):(jc ws x).length<=ws.length:=by
 unfold jc;rw[bW];exact du (fi _ _) (by simp)
section
variable {P:Program} {r:Option Nat} {n:Nat} {L:Sl} {ds:List Deferred} {w:World} {K:Kt} {ops:Array Oper} {rest:List Oper} {d:Nat} {x y:Operand} {ty:TypeId} {pos:String} {af:Array Edge}
theorem k4 {t:TypeId} (ht:P.underlying t=some .string) {cs:Array Value} {off:Nat} {v:Value} (hv:cs[off]? =some v):(part t cs off).run P w= .ok v w:=by
 have KZ:(isAgg t).run P w= .ok false w:=by
  unfold isAgg;rw[cA,run_underlying ht w];simp
 unfold part;rw[cA,KZ];simp[hv]
theorem EK {t:TypeId} {f g:Field} {k:Nat} {xs ys:Array Value} {a b a' b':Value} {c e:Bool} (ht:P.underlying t=some (.struct #[f,g])) (hp:P.stoodInHeld t=false) (hn:f.name≠ "_") (SS:g.name≠ "_")
  (p1:(part f.type xs f.offset).run P w= .ok a w) (p2:(part f.type ys f.offset).run P w= .ok b w) (p3:(part g.type xs g.offset).run P w= .ok a' w) (p4:(part g.type ys g.offset).run P w= .ok b' w)
  (h1:(Op.equalIn k f.type a b).run P w= .ok c w) (h2:(Op.equalIn k g.type a' b').run P w= .ok e w):(Op.equalIn (k+1) t (.agg xs) (.agg ys)).run P w= .ok (c&&e) w:=by
 have Y2:P.fieldsOf t= #[f,g]:=by simp[Program.fieldsOf,ht]
 rw[run_equalIn_struct (P:=P) w k t xs ys (by rw[Y2];exact ht) hp,Y2];simp only[Op.eqFields,hn,SS,ne_eq,not_false_eq_true,if_true,cA,p1,p2,p3,p4,h1,h2,cT]
 cases c
 ·simp
 ·simp only[Bool.not_true,Bool.false_eq_true,if_false,cA,p3,p4,h2,cT]
  cases e<;>simp
theorem Im (a b:List UInt8):((⟨a.toArray⟩:ByteArray).toList==(⟨b.toArray⟩:ByteArray).toList)=decide (a=b):=by
 rw[ByteArray.toList_eq,ByteArray.toList_eq];show(a==b)=_;by_cases h:a=b
 ·subst h;simp
 ·simp[h]
end
end Go.K

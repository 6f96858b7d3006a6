/- What the law 'MergeMerges' needs of walks and plain Lean, part 4: nothing is assumed beyond the texts that it imports. -/
import Derived.KernelRfl
import Derived.Laws.StructEq
import Derived.Test.YtbobcaffmbaadaaGreatDoorProg
import Derived.Test.YtbobcaffmbaadaaGreatDoorZMergeMerges1
import Derived.Test.YtbobcaffmbaadaaGreatDoorZMergeMerges2
import Derived.Test.YtbobcaffmbaadaaGreatDoorZMergeMerges3
set_option linter.unusedVariables false
set_option linter.unusedSimpArgs false
namespace Go.K
open Go.Proofs
namespace TKBldF
theorem an4:TI Tryz.prog 198 (.agg #[(.slice none 0 0),(.slice none 0 0)]) 2 48:=by unfold TI;kernel_rfl
theorem an5:placesOf Tryz.prog 198=[(0,1),(1,1)].map some:=by kernel_rfl
theorem an6:Enters Tryz.prog 198:=enters Tryz.func198 rfl q0
theorem an7:Enters Tryz.prog 199:=enters Tryz.func199 rfl q0
theorem an8:Enters Tryz.prog 200:=enters Tryz.func200 rfl q0
end TKBldF
open TKBldF
set_option maxRecDepth 10000
def Hm:Option (List UInt8)->List (List UInt8)->Bool
 |_,[]=>true
 |o,x::l=>(match o with|none=>true|some a=>decide (a<x))&&Hm (some x) l
theorem BG {l:List (List UInt8)} {k:Nat} {x:List UInt8} (h:l[k]? =some x) (o:Option (List UInt8)):Hm o (l.drop k)=((match o with|none=>true|some a=>decide (a<x))&&Hm (some x) (l.drop (k+1))):=by
 obtain⟨eK,he⟩:=aj.1 h;rw[dV eK,he];rfl
theorem Hn {a:List UInt8}:∀{l:List (List UInt8)},CZ (a::l)->Hm (some a) l=true
 |[],_=>rfl
 |x::l,h=>by
  have h':=eV.1 h;simp only[Hm,cv,decide_eq_true_eq];exact⟨h'.1 x (bZ ..),Hn h'.2⟩
theorem aaR:∀{l:List (List UInt8)},CZ l->Hm none l=true
 |[],_=>rfl
 |x::l,h=>by simp only[Hm,fK];exact Hn h
theorem N5 {M:aJ} {v:Value} {l:List Int} (w0:World) (hv:((RT.int .i64).sl).V M w0 l v):
  Spec Tryz.prog 143 #[v] w0 (λv' w'=>v'= .bool (eT (-1) l)/\w'=w0):=by
 have hlen:=dZ hv;refine bF (args:=[_]) (fn:=Tryz.f143) Tryz.func143 G (n:=28) Tryz.ntmps143 (T.aQ (Rg.bA G G (aI (T.aQ (ab G G (bK ah G hv G (ab G G (ad ?_))))))));refine aS ?_;refine dg (σ:=Nat×Int) (λs=>[(0,v),(5,v),(6,.int .i64 l.length),(7,.int .i64 s.1)]) (λs w=>w=w0/\s.1<=l.length/\eT (-1) l=eT s.2 (l.drop s.1)/\ -1<=s.2/\(s.1=0->s.2= -1)/\(0<s.1->l[s.1-1]? =some s.2)) (λs=>l.length-s.1) (0,-1) Y7 ?_ ?_
 ·exact⟨rfl,bC _,rfl,by decide,λ_=>rfl,λh=>absurd h (kQ 0)⟩
 ·rintro⟨k,last⟩ w1 ⟨rfl,hk,hr,hl0,h0,h1⟩;dsimp only at hk hr hl0 h0 h1 ⊢;refine T.aQ (ch G G G (ad (aI ?_)));refine bM G (λc2=>?_) (λc2=>?_)
  ·refine aR (aI (aS (T.aQ (ab G G ?_))));obtain⟨x,hx⟩:∃x,l[k]? =some x:=⟨_,al k3⟩;refine bX ah I3 G G G hv bY k3 (λu a hg hu=>?_);obtain rfl:x=a:=dw (ar (hg.symm.trans a65));refine bV aq G G hu bY (λinx=>?_);refine aB G G (Rg.bA G G (T.aQ (ab G G (ch G G G (ab G G ?_)))));refine aW (g:=14) G (λkM=>?_) (λkM=>?_)
   ·refine ao G G G G (ao G G G G (ao G G G G (cj G G G (cj G G G (cj G G G (cj G G G (cj G G G (cj G G G (cj G G G (ao G G G G (bm G G G ?_)))))))))));refine ad (kT G (T.aQ (Rg.bA G G (aT ?_))));refine aX G G ⟨congrArg Value.bool (dw ?_),G⟩;rw[hr,fZ hx,decide_eq_false (show¬last<x by omega),mA]
   ·refine ak G G (ab G G (ak G G (iX G G G (ak G G (ab G G ?_)))));refine aW (g:=17) G (λJB=>?_) (λJB=>?_)
    ·refine ak G G (ab G G (ak G G (ab G G (ak G G (ab G G (ak G G (fQ G G G k3 (ak G G ?_))))))));refine bX ah I3 G G G hv bY k3 (λu2 a hg mu=>?_);obtain rfl:last=a:=dw (ar (hg.symm.trans (by rw[show((k:Int)-1).toNat=k-1 from by omega];exact h1 k3)));refine ak G G ?_;refine bV aq G G mu bY (λinl=>?_);refine ak G G (iG G G G (ak G G (bm G G G (aM G G G (ad ?_)))));refine bM G (λc4=>?_) (λc4=>?_)
     ·refine T.aQ (Rg.bA G G (aT ?_));refine aX G G ⟨congrArg Value.bool (dw ?_),G⟩;rw[hr,fZ hx,decide_eq_false (show¬last<x by omega),mA]
     ·refine aR (aH (bG G G G k3 (ab G G (ad ?_))));refine⟨G,(k+1,x),Y7,?_,?_⟩
      ·refine⟨rfl,by simp only;omega,?_,by simp only;omega,λh=>by simp at h,λ_=>by simpa using hx⟩;rw[hr,fZ hx,decide_eq_true (show last<x by omega),fK]
      ·simp only;omega
    ·refine ao G G G G (ao G G G G (ao G G G G (ao G G G G (ao G G G G (ao G G G G (ao G G G G (ak G G (aM G G G (aM G G G (ad (jD G ?_)))))))))));refine aR (aH (bG G G G k3 (ab G G (ad ?_))));refine⟨G,(k+1,x),Y7,?_,?_⟩
     ·refine⟨rfl,by simp only;omega,?_,by simp only;omega,λh=>by simp at h,λ_=>by simpa using hx⟩;rw[hr,fZ hx,decide_eq_true (show last<x by omega),fK]
     ·simp only;omega
  ·refine cO (T.aQ (Rg.bA G G (aT ?_)));refine aX G G ⟨congrArg Value.bool (dw ?_),G⟩;rw[hr,fR k3];rfl
theorem Ho {M:aJ} {v:Value} {l:List (List UInt8)} (w0:World) (hv:(RT.str.sl).V M w0 l v):
  Spec Tryz.prog 198 #[v] w0 (λv' w'=>v'= .bool (Hm none l)/\w'=w0):=by
 have hlen:=dZ hv;refine bF (args:=[_]) (fn:=Tryz.f198) Tryz.func198 G (n:=24) Tryz.ntmps198 (T.aQ (Rg.bA G G (aI (T.aQ (ab G G (bK az G hv G (ab G G (ad ?_))))))));refine aS ?_;refine dg (σ:=Nat×Option (List UInt8)) (λs=>[(0,v),(5,v),(6,.int .i64 l.length),(7,.int .i64 s.1)]) (λs w=>w=w0/\s.1<=l.length/\Hm none l=Hm s.2 (l.drop s.1)/\(s.1=0->s.2=none)/\(0<s.1->∃a,s.2=some a/\l[s.1-1]? =some a)) (λs=>l.length-s.1) (0,none) Y7 ?_ ?_
 ·exact⟨G,bC _,G,λ_=>G,λh=>absurd h (kQ 0)⟩
 ·rintro⟨k,o⟩ w1 ⟨rfl,hk,hr,h0,h1⟩;dsimp only at hk hr h0 h1 ⊢;refine T.aQ (ch G G G (ad (aI ?_)));refine bM G (λc2=>?_) (λc2=>?_)
  ·refine aR (aI (aS (T.aQ (ab G G ?_))));obtain⟨x,hx⟩:∃x,l[k]? =some x:=⟨_,al k3⟩;refine bX az I9 G G G hv bY k3 (λu a hg hu=>?_);obtain rfl:x=a:=dw (ar (hg.symm.trans a65));refine bE aG G G G G G hu bY (λvx uV=>?_);obtain rfl:=fp uV;refine aB G G (Rg.bA G G (T.aQ (ab G G (iX G G G (ab G G ?_)))));refine aW (g:=14) G (λkM=>?_) (λkM=>?_)
   ·refine ak G G (ab G G (ak G G (ab G G (ak G G (ab G G (ak G G (fQ G G G k3 (ak G G ?_))))))));obtain⟨last,rfl,kF⟩:=h1 k3;refine bX az I9 G G G hv bY k3 (λu2 a hg mu=>?_);obtain rfl:last=a:=dw (ar (hg.symm.trans (by rw[show((k:Int)-1).toNat=k-1 from by omega];exact kF)));refine ak G G ?_;refine bE aG G G G G G mu bY (λvl iN=>?_);obtain rfl:=fp iN;refine ak G G (Rg.aat G G G (bm G G G (ad ?_)));refine bM G (λc4=>?_) (λc4=>?_)
    ·refine T.aQ (Rg.bA G G (aT ?_));refine aX G G ⟨congrArg Value.bool (dw ?_),G⟩;rw[hr,BG hx];simp[c4]
    ·refine aR (aH (bG G G G k3 (ab G G (ad ?_))));refine⟨G,(k+1,some x),Y7,?_,?_⟩
     ·refine⟨rfl,by simp only;omega,?_,λh=>by simp at h,λ_=>⟨x,rfl,by simpa using hx⟩⟩;rw[hr,BG hx]
      first
      |(rw[h0 k3];simp;done)
      |(have c4':=dj.1 c4;simp[c4'];done)
     ·simp only;omega
   ·refine ao G G G G (ao G G G G (ao G G G G (ao G G G G (ao G G G G (ao G G G G (ao G G G G (aM G G G (ad (jD G (aR (aH ?_)))))))))));refine bG G G G k3 (ab G G (ad ?_));refine⟨G,(k+1,some x),Y7,?_,?_⟩
    ·refine⟨rfl,by simp only;omega,?_,λh=>by simp at h,λ_=>⟨x,rfl,by simpa using hx⟩⟩;rw[hr,BG hx]
     first
     |(rw[h0 k3];simp;done)
     |(have c4':=dj.1 c4;simp[c4'];done)
    ·simp only;omega
  ·refine cO (T.aQ (Rg.bA G G (aT ?_)));refine aX G G ⟨congrArg Value.bool (dw ?_),G⟩;rw[hr,fR k3];rfl
theorem yL {α:Type} {A:RT α} {M:aJ} {w:World} {v:Value} {x:α} (h:dv A M w v x):v.cells= #[v]:=by
 obtain⟨b,o,vs,rfl,_⟩:=h;rfl
theorem J2 {M:aJ} {v0 v1:Value} {ns:List (List UInt8)} {ts:List Li} (w0:World) (hM:Lt M w0) (hn:(RT.str.sl).V M w0 ns v0) (ht:(((RT.li).ptr).sl).V M w0 ts v1) (hl:ns.length<=1099511627776) (Uo:ts.length<=1099511627776):
  Spec Tryz.prog 147 #[v0,v1] w0 (λv w=>∃p,v= .tuple #[p,.int .i64 (if ns.length=ts.length/\Hm none ns=true then 0 else 1)]/\(ns.length=ts.length->Hm none ns=true->dv RT.di M w p (ns,ts))/\Step M w0 M w aA):=by
 refine bF (args:=[_,_]) (fn:=Tryz.f147) Tryz.func147 G (n:=22) Tryz.ntmps147 ?_;have S:Step M w0 M w0 aA:=bz;refine T.aQ (aB G G (Rg.bA G G (aI (T.aQ (ab G G (bK az G hn G (ab G G (bK eZ G ht G ?_))))))));refine fH G G G (ab G G ?_);refine aW (g:=11) G (λyA=>?_) (λyA=>?_)
 ·refine ao G G G G (ao G G G G (ao G G G G (bm G G G (ad (kT G (T.aQ (aB G G (Rg.bA G G (aT ?_)))))))))
  first
  |exact fA rfl rfl rfl ⟨_,by rw[if_neg (λh=>yA k3)],λh=>absurd k3 yA,S⟩
  |exact fA rfl rfl rfl ⟨_,by rw[if_neg (λh=>c1 h.2)],λ_ h=>absurd h c1,S⟩
 ·refine ak G G (ab G G (ak G G ?_));refine a8 G G an6 (Ho _ hn) (λr wc hc=>?_);obtain⟨rfl,rfl⟩:=hc;refine ak G G (kU G G (bc (v':= .bool (decide (¬Hm none ns=true))) (by simp) (aM G G G (ad ?_))));refine bM G (λc1=>?_) (λc1=>?_)
  ·refine T.aQ (aB G G (Rg.bA G G (aT ?_)))
   first
   |exact fA rfl rfl rfl ⟨_,by rw[if_neg (λh=>yA k3)],λh=>absurd k3 yA,S⟩
   |exact fA rfl rfl rfl ⟨_,by rw[if_neg (λh=>c1 h.2)],λ_ h=>absurd h c1,S⟩
  ·refine aR (T.aQ (ab G G ?_));refine a8 G G an7 (Ra hM hn hl) (λv3 w3 hc=>?_);obtain⟨yE,s3⟩:=hc;replace hn:=hn.le s3.le;replace ht:=ht.le s3.le;replace hM:=s3.lt hM;have:=S.size;replace S:=S.aw s3;refine ab G G ?_;refine a8 G G an8 (VB hM ht Uo) (λv4 w4 hc=>?_);obtain⟨qm,s4⟩:=hc;replace hn:=hn.le s4.le;replace ht:=ht.le s4.le;replace yE:=yE.le s4.le;replace hM:=s4.lt hM;have:=S.size;replace S:=S.aw s4;refine ie (places:=[(0,1),(1,1)]) lG an4 an5 rfl ⟨_,_,rfl,rfl,_,_,rfl,rfl,rfl⟩ (out:=[_,_]) ⟨0,[_],rfl,jo yE,by simp[Value.cells],1,[_],rfl,jo qm,by simp[Value.cells],rfl⟩ ?_;refine kB (A:=RT.di) (a:=(ns,ts)) G G hM (fE yE qm G G G G) G (λu5 w5 Gv s5 _=>?_);replace hn:=hn.le s5.le;replace ht:=ht.le s5.le;replace yE:=yE.le s5.le;replace qm:=qm.le s5.le;replace hM:=s5.lt hM;have:=S.size;replace S:=S.aw s5;refine aB G G (Rg.bA G G (aT ?_));exact fA rfl rfl rfl ⟨_,by rw[if_pos ⟨by omega,dj.1 c1⟩],λ_ _=>Gv,S⟩
end Go.K
namespace Go.K
theorem J3 (n:Nat):IntKind.u8.wrap (n:Int)=((UInt8.ofNat n).toNat:Int):=by
 rw[IntKind.wrap_u8];simp[UInt8.toNat_ofNat]
theorem afX:∀m:Nat,m<256->(BitVec.ofInt 8 (m:Int)|||BitVec.ofInt 8 128).toNat=128+m%128:=by decide+kernel
theorem VM (n:Nat):IntKind.u8.wrap ((BitVec.ofInt IntKind.u8.bits (IntKind.u8.wrap (n:Int))|||BitVec.ofInt IntKind.u8.bits 128).toNat:Int)=((UInt8.ofNat (128+n%128)).toNat:Int):=by
 have h1:IntKind.u8.wrap (n:Int)=((n%256:Nat):Int):=by rw[IntKind.wrap_u8];omega
 rw[h1];show IntKind.u8.wrap ((BitVec.ofInt 8 ((n%256:Nat):Int)|||BitVec.ofInt 8 128).toNat:Int)=_;rw[afX (n%256) k3,IntKind.wrap_u8,show n%256%128=n%128 from by omega];simp[UInt8.toNat_ofNat]
theorem aoa (n:Nat):((n:Int)).fdiv (2^min (Int.toNat 7) IntKind.i64.bits)=((n/128:Nat):Int):=by
 show((n:Int)).fdiv 128=_;rw[Int.fdiv_eq_ediv_of_nonneg _ q0];rfl
theorem J4:∀m:Nat,m<256->(BitVec.ofInt 8 (m:Int)&&& ~~~ BitVec.ofInt 8 128).toNat=m%128:=by decide+kernel
theorem Hp (c:UInt8):IntKind.u8.wrap ((BitVec.ofInt IntKind.u8.bits (c.toNat:Int)&&& ~~~ BitVec.ofInt IntKind.u8.bits 128).toNat:Int)=((c.toNat%128:Nat):Int):=by
 show IntKind.u8.wrap ((BitVec.ofInt 8 (c.toNat:Int)&&& ~~~ BitVec.ofInt 8 128).toNat:Int)=_;rw[J4 c.toNat (by have:=c.toNat_lt;omega),IntKind.wrap_u8];omega
theorem RE (k n x:Nat) (hk:k<=8) (hn:n<128^k) (hx:x<128):
  IntKind.i64.wrap ((BitVec.ofInt IntKind.i64.bits (n:Int)|||BitVec.ofInt IntKind.i64.bits (IntKind.i64.wrap ((x:Int)*2^min (Int.toNat (7*(k:Int))) IntKind.i64.bits))).toNat:Int)=((n+x*128^k:Nat):Int):=by
 have e7:Int.toNat (7*(k:Int))=7*k:=by omega
 have e1:min (7*k) 64=7*k:=by omega
 have e2:(128:Nat)^k=2^(7*k):=by rw[Nat.pow_mul]
 have hp:2^(7*k)<=2^56:=zK q0 k3;have hb:x*2^(7*k)<=127*2^(7*k):=fM _ k3;rw[e2]at hn ⊢;show IntKind.i64.wrap ((BitVec.ofInt 64 (n:Int)|||BitVec.ofInt 64 (IntKind.i64.wrap ((x:Int)*2^min (Int.toNat (7*(k:Int))) 64))).toNat:Int)=_;rw[e7,e1];have e3:((x:Int)*2^(7*k))=((x*2^(7*k):Nat):Int):=by simp
 have e5:n|||x*2^(7*k)=n+x*2^(7*k):=by
  rw[Nat.or_comm,Nat.mul_comm x,<-Nat.two_pow_add_eq_or_of_lt hn x,Nat.add_comm]
 rw[e3];generalize x*2^(7*k)=y at*
 generalize 2^(7*k)=z at*
 have e4:∀m:Nat,m<2^64->(BitVec.ofInt 64 (m:Int))=BitVec.ofNat 64 m:=λm _=>by simp
 rw[lU (y:Int) k3,e4 n k3,e4 y k3,BitVec.toNat_or,BitVec.toNat_ofNat,BitVec.toNat_ofNat,ye k3,ye k3,e5,lU _ k3]
theorem wL (x:Int): -9223372036854775808<=IntKind.i64.wrap x/\IntKind.i64.wrap x<=9223372036854775807:=by rw[IntKind.wrap_i64];omega
open Go.Proofs
set_option maxRecDepth 10000
theorem E1 {M:aJ} {w0:World} {v:Value} {b:List UInt8} {n:Nat} (hM:Lt M w0) (hv:(RT.u8.sl).V M w0 b v) (hb:b.length<=70368744177664) (hn:n<=9223372036854775807):
  Spec Tryz.prog 195 #[v,.int .i64 n] w0 (λv' w'=>∃M',Step M w0 M' w' aA/\Own RT.u8 5 M' w' w0.heap.size v' (b++put n)):=by
 have h9:=nf hn;refine bF (args:=[_,_]) (fn:=Tryz.f195) Tryz.func195 G (n:=26) Tryz.ntmps195 (T.aQ (Rg.bA G G (T.aQ (ab G G (ab G G ?_)))))
 first|refine bK cf rfl W4 rfl ?_|refine fW cf rfl W4 rfl ?_
 refine ab G G ?_
 first|refine bK cf rfl W4 rfl ?_|refine fW cf rfl W4 rfl ?_
 refine Rg.IU cf I5 G G G G hv ⟨G,G⟩ (λa ny tu=>?_);refine Rg.bA G G (aI (aS ?_));refine dg (σ:=Nat×Value×List UInt8) (λs=>[(0,s.2.1),(1,.int .i64 s.1)]) (λs w=>s.2.2++put s.1=b++put n/\∃M1,Lt M1 w/\Step M w0 M1 w aA/\Grow RT.u8 q0 5 M1 w w0.heap.size s.2.1 s.2.2) (λs=>s.1) (n,_,b) a38 ?_ ?_
 ·exact⟨G,M,hM,bz,.inr ⟨a,G,tu,ny⟩⟩
 ·rintro⟨k,u0,acc⟩ w1 ⟨CJ,M1,mV,s1,hg⟩;dsimp only at CJ hg ⊢;have hlen:=congrArg List.length CJ;have wZ:=US k;simp only[aY]at hlen;refine aI (T.aQ (ab G G (eP G G G (ad ?_))));refine bM G (λc2=>?_) (λc2=>?_)
  ·refine aR (aS (T.aQ (ab G G (ab G G (vR aq dq G G (Rg.or G G G (bc (congrArg _ (VM _)) ?_)))))));refine dP (A:=RT.u8) (hn:=by decide) (M:=M1) cf I5 q0 G G mV (Za.2 G) (.inr ⟨G,G⟩) (λu w2 hu s2=>?_);refine Rg.Lw (M:=M1) (base:=w0.heap.size) cf I5 G G G G (hg.le s2) hu bY (by simp) a03 a03 (eG s1.size s2.size) (λv3 M3 w3 BH s3=>?_);refine Rg.bA G G (aH (ab G G (Rg.shr G G G k3 (bc (congrArg _ (aoa _)) (Rg.bA G G ?_)))));refine⟨G,(k/128,v3,acc++[UInt8.ofNat (128+k%128)]),a38,?_,?_⟩
   ·exact⟨by rw[<-CJ,Jb (n:=k) k3];simp,M3,s3.lt (s2.lt mV),(s1.aw s2).ot s3 (aN _),.inl BH⟩
   ·show k/128<k;omega
  ·refine cO (T.aQ (ab G G (ab G G (vR aq dq G G (bc (congrArg _ (J3 _)) ?_)))));refine dP (A:=RT.u8) (hn:=by decide) (M:=M1) cf I5 q0 G G mV (Za.2 G) (.inr ⟨G,G⟩) (λu w2 hu s2=>?_);refine Rg.Lw (M:=M1) (base:=w0.heap.size) cf I5 G G G G (hg.le s2) hu bY (by simp) a03 a03 (eG s1.size s2.size) (λv3 M3 w3 BH s3=>?_);refine Rg.bA G G (aT (aX G G ⟨M3,(s1.aw s2).ot s3 (aN _),?_⟩));rw[<-CJ,AT (n:=k) k3];exact BH
theorem RF {M:aJ} {w0:World} {v:Value} {b:List UInt8} {n:Nat} (hM:Lt M w0) (hv:(RT.u8.sl).V M w0 b v) (hb:b.length<=70368744177664) (hn:n<=9223372036854775807):
  Spec Tryz.prog 195 #[v,.int .i64 n] w0 (λv' w'=>Step M w0 M w' aA/\(RT.u8.sl).V M w' (b++put n) v'):=
 (E1 hM hv hb hn).mono λ_ _ ⟨_,s,ho⟩=>⟨s.back,gT hM s ho (by have:=nf hn;simp;omega)⟩
theorem Hq {M:aJ} {w0:World} {v:Value} {b:List UInt8} {at_:Int} (hv:(RT.u8.sl).V M w0 b v) (RG: -9223372036854775808<=at_/\at_<=9223372036854775807):
  Spec Tryz.prog 263 #[v,.int .i64 at_] w0 (λv' w'=>v'= .tuple #[.int .i64 (get b at_).1,.int .i64 (get b at_).2.1,.int .i64 (get b at_).2.2]/\w0=w'):=by
 have hlen:=dZ hv;refine bF (args:=[_,_]) (fn:=Tryz.f263) Tryz.func263 G (n:=54) Tryz.ntmps263 (T.aQ (aB G G (aB G G (Rg.bA G G (aI (T.aQ (ab G G (ch G G G ?_))))))));refine ab G G ?_;refine aW (g:=12) G (λjM=>?_) (λjM=>?_)
 ·obtain h17:at_<0\/(b.length:Int)<at_:= .inl jM;refine ao G G G G (ao G G G G (ao G G G G (ao G G G G (bm G G G (ad (kT G (T.aQ (aB G G (aB G G (aB G G ?_))))))))));refine ad (aT ?_);have km:get b at_=(0,0,1):=by unfold get;rw[if_pos h17]
  exact vh rfl rfl rfl rfl ⟨by rw[km],rfl⟩
 ·refine ak G G (ab G G (ak G G (ab G G (ak G G ?_))))
  first|refine bK cf rfl W4 rfl ?_|refine fW cf rfl W4 rfl ?_
  refine ak G G (iX G G G (aM G G G (ad ?_)));refine bM G (λc1=>?_) (λc1=>?_)
  ·obtain h17:at_<0\/(b.length:Int)<at_:= .inr c1;refine T.aQ (aB G G (aB G G (Rg.bA G G (aT ?_))));have km:get b at_=(0,0,1):=by unfold get;rw[if_pos h17]
   exact vh rfl rfl rfl rfl ⟨by rw[km],rfl⟩
  ·refine aR (T.aQ (Rg.bA G G (aI (T.aQ (ab G G (ab G G (ab G G ?_)))))))
   first|refine bK cf rfl W4 rfl ?_|refine fW cf rfl W4 rfl ?_
   refine ab G G (bG G G G k3 (Rg.min2 G G G ?_));refine Rg.Pj cf I5 G G G G hv k3 (λu hu=>?_);rw[show(min (b.length:Int) (at_+9)).toNat=min b.length (at_.toNat+9)from by omega,Zx]at hu;have km:get b at_=match qg ((b.drop at_.toNat).take 9) 0 0 with|some (n,k)=>((n:Int),at_+k,0)|none=>(0,0,2):=by unfold get;rw[if_neg k3];rfl
   have mn:((b.drop at_.toNat).take 9).length<=9:=by rw[aU];omega
   generalize (b.drop at_.toNat).take 9=bs at hu km mn
   first|refine bK cf rfl W4 rfl ?_|refine fW cf rfl W4 rfl ?_
   refine ab G G (ad (aS ?_));refine dg (σ:=Nat×Nat) (λs=>[(1,.int .i64 at_),(25,u),(26,.int .i64 bs.length),(27,.int .i64 s.1),(7,.int .i64 s.2)]) (λs w=>w0=w/\s.1<=bs.length/\s.2<128^s.1/\qg (bs.drop s.1) s.1 s.2=qg bs 0 0) (λs=>bs.length-s.1) (0,0) a19 ?_ ?_
   ·exact⟨rfl,bC _,by decide,rfl⟩
   ·rintro⟨k,m⟩ w1 ⟨rfl,hk,hm,hg⟩;dsimp only at hk hm hg ⊢;refine T.aQ (ch G G G (ad (aI ?_)));refine bM G (λc5=>?_) (λc5=>?_)
    ·refine aR (aI (aS (T.aQ (ab G G ?_))));refine bX (M:=M) cf I5 G G G W4 (by repeat (first|exact bH _ _|refine aZ (bI W4) ?_)) k3 (λaz1 VN Hr auP=>?_);refine Rg.Zb (M:=M) dq G G W4 (by repeat (first|exact bH _ _|refine aZ (bI W4) ?_)) ?_;refine aB G G (Rg.bA G G (T.aQ (ab G G (ab G G (Rg.andNot G G G (bc (congrArg _ (Hp _)) (Rg.ym dq aq G G k3 (ab G G (Rg.Pg G G G k3 ?_)))))))));refine Rg.shl G G G k3 (Rg.or G G G (bc (congrArg _ (RE k m _ k3 hm k3)) (Rg.bA G G (T.aQ (ab G G (ch G G G (ad ?_)))))));refine bM G (λc8=>?_) (λc8=>?_)
     ·refine aI (T.aQ (ab G G (sJ G G G (ab G G ?_))));refine aW (g:=44) G (λE2=>?_) (λE2=>?_)
      ·refine ak G G (ab G G (ak G G (iX G G G (bm G G G (ad ?_)))));refine bM G (λc9=>?_) (λc9=>?_)
       ·refine cO (T.aQ (aB G G (aB G G (Rg.bA G G (aT ?_)))))
        have hr:qg bs 0 0=none:=by
         rw[<-hg]
         first
         |(rw[qh (by simpa using Hr),if_pos k3,if_pos k3])
         |(rw[fR k3];rfl)
        exact vh rfl rfl rfl rfl ⟨by rw[km,hr],rfl⟩
       ·refine aR (T.aQ (ab G G (ab G G (ab G G (bG G G G k3 (bG G G G k3 (aB G G (aB G G (Rg.bA G G ?_)))))))));refine aT ?_;have hr:qg bs 0 0=some (m+VN.toNat%128*128^k,k+1):=by rw[<-hg,qh (by simpa using Hr),if_pos k3,if_neg k3]
        exact vh rfl rfl rfl rfl ⟨by rw[km,hr];simp;omega,rfl⟩
      ·refine ao G G G G (ao G G G G (aM G G G (ad (jD G (aR (T.aQ (ab G G (ab G G (ab G G (bG G G G k3 ?_))))))))));refine bG G G G k3 (aB G G (aB G G (Rg.bA G G (aT ?_))));have hr:qg bs 0 0=some (m+VN.toNat%128*128^k,k+1):=by rw[<-hg,qh (by simpa using Hr),if_pos k3,if_neg k3]
       exact vh rfl rfl rfl rfl ⟨by rw[km,hr];simp;omega,rfl⟩
     ·refine aR (aH (bG G G G k3 (ab G G (ad ?_))));refine⟨G,(k+1,m+VN.toNat%128*128^k),a19,?_,?_⟩
      ·refine⟨rfl,by simp only;omega,?_,?_⟩
       ·have:=fM (128^k) (show VN.toNat%128<=127 from by omega);simp only[Nat.pow_succ];omega
       ·rw[qh (by simpa using Hr),if_neg k3]at hg;exact hg
      ·simp only;omega
    ·refine cO (T.aQ (aB G G (aB G G (Rg.bA G G (aT ?_)))))
     have hr:qg bs 0 0=none:=by
      rw[<-hg]
      first
      |(rw[qh (by simpa using Hr),if_pos k3,if_pos k3])
      |(rw[fR k3];rfl)
     exact vh rfl rfl rfl rfl ⟨by rw[km,hr],rfl⟩
theorem C1 {M:aJ} {w0:World} {v u:Value} {b:List UInt8} {l:List Int} (hM:Lt M w0) (hv:(RT.u8.sl).V M w0 b v) (hu:((RT.int .i64).sl).V M w0 l u) (hb:b.length+9*(l.length+1)<=70368744177664):
  Spec Tryz.prog 196 #[v,u] w0 (λv' w'=>∃M' x,Step M w0 M' w' aA/\v'= .tuple #[x,.int .i64 (if eT (-1) l then 0 else 1)]/\Own RT.u8 5 M' w' w0.heap.size x (if eT (-1) l then b++fF l else[])):=by
 have uQ:=nf (n:=l.length) k3;refine bF (args:=[_,_]) (fn:=Tryz.f196) Tryz.func196 G (n:=31) Tryz.ntmps196 (T.aQ (aB G G (Rg.bA G G (T.aQ (ab G G (ab G G (bK ah G hu G ?_)))))));refine a8 G G ZF (E1 (M:=M) hM hv k3 k3) (λub wb Lu=>?_);obtain⟨Mb,sb,kD⟩:=Lu;refine Rg.bA G G (T.aQ (Rg.bA G G (aI (T.aQ (ab G G (bK ah G hu G (ab G G ?_)))))));refine ad (aS ?_);refine dg (σ:=Nat×Int×Value×List UInt8) (λs=>[(0,s.2.2.1),(6,.int .i64 s.2.1),(13,u),(14,.int .i64 l.length),(15,.int .i64 s.1)]) (λs w=>eT (-1) l=eT s.2.1 (l.drop s.1)/\(eT (-1) l=true->s.2.2.2++nK s.2.1 (l.drop s.1)=b++fF l)/\s.1<=l.length/\ -1<=s.2.1/\s.2.2.2.length<=b.length+9*(s.1+1)/\∃M1,Lt M1 w/\Step M w0 M1 w aA/\Own RT.u8 5 M1 w w0.heap.size s.2.2.1 s.2.2.2) (λs=>l.length-s.1) (0,-1,_,b++put l.length) a19 ?_ ?_
 ·exact⟨rfl,λ_=>by simp[fF],bC _,by simp only;omega,by simp;omega,Mb,sb.lt hM,sb,kD⟩
 ·rintro⟨k,last,u0,acc⟩ w1 ⟨hr,CJ,hk,hl0,hal,M1,mV,s1,ho⟩;dsimp only at hr CJ hk hl0 hal ho ⊢;refine T.aQ (ch G G G (ad (aI ?_)));refine bM G (λc4=>?_) (λc4=>?_)
  ·refine aR (aI (aS (T.aQ ?_)));obtain⟨x,hx⟩:∃x,l[k]? =some x:=⟨_,al k3⟩;have hxr:=Ei hu hx;refine bX ah I3 G G G (hu.le (s1.back).le) bY k3 (λafY RH afZ L7=>?_);obtain rfl:RH=x:=ar (afZ.symm.trans a65);refine bV aq G G L7 bY (λ_=>?_);refine Rg.bA G G (aI (T.aQ (ab G G (ab G G (iG G G G (ad ?_))))));refine bM G (λc6=>?_) (λc6=>?_)
   ·refine T.aQ (aB G G (Rg.bA G G (aT ?_)));have hrf:eT (-1) l=false:=by rw[hr,fZ hx,decide_eq_false k3,mA]
    exact fA rfl rfl rfl ⟨M1,_,s1,by rw[hrf];rfl,by rw[hrf];exact dh _ _ _ _ _⟩
   ·refine aR (T.aQ (ab G G (ab G G (ab G G (Rg.ad3 G G G (Rg.ad3 G G G ?_))))));have hpx:=nf (n:=(RH-last-1).toNat) k3;refine bc (v':= .int .i64 (((RH-last-1).toNat:Nat):Int)) (by rw[IntKind.wrap_i64,IntKind.wrap_i64];congr 1;omega) ?_;have hfz:=s1.freeze (v:=u0) (λb hb=>(ho.base b hb).1);refine a8 G G ZF (E1 (M:=rm M1 u0) (mV.rm u0) (ho.view k3) k3 k3) (λub wb Lu=>?_);obtain⟨Mb2,sb2,aoc⟩:=Lu;refine Rg.bA G G (aH (ab G G (Rg.bA G G (aH (bG G G G k3 (ab G G (ad ?_)))))));refine⟨G,(k+1,RH,ub,acc++put (RH-last-1).toNat),a19,?_,?_⟩
    ·refine⟨?_,λh=>?_,by simp only;omega,by simp only;omega,by simp only[aY];omega,Mb2,sb2.lt (mV.rm u0),hfz.aw sb2,aoc.kj s1.size⟩
     ·rw[hr,fZ hx,decide_eq_true k3,fK]
     ·rw[<-CJ h,Nt hx];simp
    ·simp only;omega
  ·refine cO (T.aQ (ab G G (aB G G (Rg.bA G G (aT ?_)))));have hrt:eT (-1) l=true:=by rw[hr,fR k3];rfl
   have ha:=CJ hrt;rw[fR k3,nK,eJ]at ha;exact fA rfl rfl rfl ⟨M1,_,s1,by rw[hrt];rfl,by rw[hrt,<-ha];exact ho⟩
theorem BI {M:aJ} {w0:World} {v u:Value} {b:List UInt8} {l:List Int} (hM:Lt M w0) (hv:(RT.u8.sl).V M w0 b v) (hu:((RT.int .i64).sl).V M w0 l u) (hb:b.length+9*(l.length+1)<=70368744177664):
  Spec Tryz.prog 196 #[v,u] w0 (λv' w'=>∃x,Step M w0 M w' aA/\v'= .tuple #[x,.int .i64 (if eT (-1) l then 0 else 1)]/\(RT.u8.sl).V M w' (if eT (-1) l then b++fF l else[]) x):=
 (C1 hM hv hu hb).mono λ_ _ ⟨_,x,s,h,ho⟩=>⟨x,s.back,h,gT hM s ho (by
  split
  next hr=>
   have uQ:=nf (n:=l.length) k3;have jr:∀x∈l,x<=9223372036854775807:=λx hx=>by obtain⟨i,hi⟩:=bQ.1 hx;exact(Ei hu hi).2
   have:=AU l (-1) q0 jr hr;simp only[fF,aY];omega
  next=>simp)⟩
theorem DS {M:aJ} {w0:World} {be bb ba:Nat} {v:Value} {b:List UInt8} {at_:Int} (he:w0.heap[be]? =some (.cells #[.int .i64 0] 26 (0,0))) (hb:w0.heap[bb]? =some (.cells #[v] 204 (0,0))) (ha:w0.heap[ba]? =some (.cells #[.int .i64 at_] 3 (0,0))) (fG:be≠ba) (hMe:M be) (hMa:M ba) (hv:(RT.u8.sl).V M w0 b v) (RG: -9223372036854775808<=at_/\at_<=9223372036854775807):
  Spec Tryz.prog 287 #[.pointer (some ⟨be,0,none⟩),.pointer (some ⟨bb,0,none⟩),.pointer (some ⟨ba,0,none⟩)] w0 (λv' w'=>v'= .int .i64 (get b at_).1/\w'.heap[be]? =some (.cells #[.int .i64 (get b at_).2.2] 26 (0,0))/\w'.heap[ba]? =some (.cells #[.int .i64 (get b at_).2.1] 3 (0,0))/\Step M w0 M w' (λk=>k=be\/k=ba)):=by
 refine bF (args:=[_,_,_]) (fn:=Tryz.f287) Tryz.func287 G (n:=15) Tryz.ntmps287 (T.aQ (Rg.bA G G (aI (T.aQ (aV zd G G G W4 G (fH G G G (ad ?_)))))));refine bM G (λc1=>?_) (λc1=>?_)
 ·exact absurd G c1
 ·refine aR (T.aQ (Rg.bA G G (T.aQ (aV cf G G G W4 G (aV aq G G G W4 G ?_)))));refine a8 G G aeH (Hq hv RG) (λr w1 h1=>?_);obtain⟨rfl,rfl⟩:=h1;refine ab G G (cq G G G (cq G G G (cq G G G (aB G G ?_))));refine cF (M:=M) I3 G G ha G G hMa (λw1 h1 s1=>?_);refine cF (M:=M) I26 G G (s1.keep he fG) G G hMe (λw2 h2 s2=>?_);refine ad (T.aQ (ab G G (Rg.bA G G (aT (aX G G ⟨G,h2,s2.keep h1 (Ne.symm fG),?_⟩)))));exact(s1.eL (λb hb=> .inr hb) (λb hb=>by rcases hb with rfl|rfl<;>assumption)).trans s2 (λb _ hb=> .inl hb)
theorem BJ {M:aJ} {w0:World} {v:Value} {b:List UInt8} {at_:Int} (hM:Lt M w0) (hv:(RT.u8.sl).V M w0 b v) (RG: -9223372036854775808<=at_/\at_<=9223372036854775807) (mn:b.length<=1099511627776):
  Spec Tryz.prog 264 #[v,.int .i64 at_] w0 (λv' w'=>∃x,v'= .tuple #[x,.int .i64 (jk b at_).2.2,.int .i64 (jk b at_).1]/\((RT.int .i64).sl).V M w' (jk b at_).2.1 x/\Step M w0 M w' aA):=by
 refine bF (args:=[_,_]) (fn:=Tryz.f264) Tryz.func264 G (n:=48) Tryz.ntmps264 (T.aQ ?_);refine zO M G G (λbb w1 Q9 az3 hB s1=>?_);rw[jo hv]at hB;refine zO (ins M bb) G G (λba w2 hba az4 hA s2=>?_);refine aB G G (aB G G (Rg.bA G G (T.aQ ?_)));refine eA (ins (ins M bb) ba) I26 G (λbe w3 VO az5 hE s3=>?_);refine cF (M:=ins (ins (ins M bb) ba) be) I26 G G hE G G (.inl G) (λw4 hE4 s4=>?_);have z1:=s1.size;have z2:=s2.size;have z3:=s3.size;have z4:=s4.size;have S4:Step M w0 (ins (ins (ins M bb) ba) be) w4 aA:=((s1.aw s2).aw s3).cL s4 (λk hk=>by subst hk;omega);have hB4:=s4.keep (s3.aP (s2.aP hB)) (show bb≠be by omega);have hA4:=s4.keep (s3.aP hA) (show ba≠be by omega);refine ad (T.aQ (l2 (xs:=[]) G G G (Rg.bA G G (T.aQ (Rg.bA G G (T.aQ ?_))))));refine Rg.bA G G (aI (T.aQ (ab G G ?_)));refine CB (first:=[]) (xs:=[]) G G G aeI (DS (M:=ins (ins (ins M bb) ba) be) hE4 hB4 hA4 k3 (.inl G) (.inr (.inl G)) (hv.le S4.le) RG) (λr w5 h5=>?_);obtain⟨rfl,hE5,hA5,s5⟩:=h5;have z5:=s5.size;have S5:=S4.cL s5 (λk hk=>by omega);have hB5:=s5.keep hB4 k3;obtain⟨hn0,hn1,hn2,hn3⟩:=re b at_;refine bc (v':= .int .i64 (((get b at_).1.toNat:Nat):Int)) (by rw[qQ hn0]) (Rg.bA G G (aS ?_));refine dg (σ:=Nat×Int×Value×List Int×Int×Int) (λs=>[(7,.pointer (some ⟨be,0,none⟩)),(3,.pointer (some ⟨ba,0,none⟩)),(8,.func (.func 287) [].toArray [.pointer (some ⟨be,0,none⟩),.pointer (some ⟨bb,0,none⟩),.pointer (some ⟨ba,0,none⟩)].toArray),(9,s.2.2.1),(10,.int .i64 s.2.1),(11,.int .i64 s.1)]) (λs w=>(s.1:Int)<=9223372036854775807/\(s.2.2.2.2.1=0->jk b at_=andThen s.2.2.2.1 (jX b s.1 s.2.2.2.2.2 s.2.1))/\(s.2.2.2.2.1≠0->jk b at_=(s.2.2.2.2.1,[],0))/\(s.2.2.2.2.1=0-> -1<=s.2.1/\s.2.1<=4611686018427387904/\(s.2.2.2.1.length:Int)<=s.2.2.2.2.2/\s.2.2.2.2.2<=b.length)/\s.2.2.2.1.length<=b.length+1/\∃M1,Lt M1 w/\Step M w0 M1 w aA/\w4.heap.size<=w.heap.size/\M1 be/\M1 ba/\Own (RT.int .i64) 3 M1 w w4.heap.size s.2.2.1 s.2.2.2.1/\w.heap[be]? =some (.cells #[.int .i64 s.2.2.2.2.1] 26 (0,0))/\w.heap[ba]? =some (.cells #[.int .i64 s.2.2.2.2.2] 3 (0,0))/\w.heap[bb]? =some (.cells #[v] 204 (0,0))) (λs=>s.1) ((get b at_).1.toNat,-1,_,[],(get b at_).2.2,(get b at_).2.1) a10 ?_ ?_
 ·refine⟨by have:=Dx b at_;simp only;omega,λh=>?_,λh=>?_,λh=>?_,by simp,_,S5.lt hM,S5,z5,.inl rfl,.inr (.inl rfl),dh _ _ _ _ _,hE5,hA5,hB5⟩
  ·unfold jk;rw[if_neg a69];exact(Gg _ (Nu b _ _ _)).symm
  ·unfold jk;rw[if_pos h]
  ·have:=yt h;simp only[lM];omega
 ·rintro⟨many,last,u0,acc,e,a1⟩ wl ⟨hmb,Uu,Nq,hok,hal,M1,mV,S,zl,hMe,hMa,ho,hE,hA,hB⟩;dsimp only at hmb Uu Nq hok hal ho hE hA hB ⊢;refine aI (T.aQ (ab G G (iX G G G (ab G G ?_))));refine aW (g:=18) G (λZL=>?_) (λZL=>?_)
  ·refine ak G G (aV zd G G G W4 G (ak G G (sJ G G G (bm G G G (ad ?_)))));refine bM G (λc6=>?_) (λc6=>?_)
   ·refine aR (aI (aS (T.aQ (ab G G ?_))));refine CB (first:=[]) (xs:=[]) rfl rfl rfl aeI (DS (M:=M1) (by rw[c6]at hE;exact hE) hB hA k3 hMe hMa (hv.le S.le) (by have:=hok c6;omega)) (λr w6 h6=>?_);obtain⟨rfl,hE6,hA6,s6⟩:=h6;have z6:=s6.size;have S6:=S.cL s6 (λk hk=>by omega);have hB6:=s6.keep hB k3;have th:=ho.step s6 (λk hk h=>by have:=(ho.base k hk).1;omega);have N6:=s6.lt mV;obtain⟨hn0,hn1,hn2,hn3⟩:=re b a1;obtain⟨xg,CK,hk3,hk4⟩:=hok c6;refine Rg.bA G G (aI (T.aQ (aV zd G G G W4 G (sJ G G G (ab G G ?_)))));refine aW (g:=28) G (λE2=>?_) (λE2=>?_)
    ·refine ak G G (ab G G (ak G G (ab G G (ak G G (fQ G G G k3 (ak G G (fQ G G G k3 (ak G G (iX G G G (bm G G G (ad ?_)))))))))));refine bM G (λc9=>?_) (λc9=>?_)
     ·refine aH ?_;refine cF (M:=M1) I26 G G hE6 G G hMe (λw7 hE7 s7=>?_);have z7:=s7.size;replace S6:=S6.cL s7 (λk hk=>by subst hk;omega);replace hB6:=s7.keep hB6 (show bb≠be by omega);replace hA6:=s7.keep hA6 (show ba≠be by omega);replace th:=th.step s7 (λk hk h=>by have:=(ho.base k hk).1;omega);replace N6:=s7.lt N6;replace hE6:=hE7;refine ad (T.aQ (ab G G (ab G G (Rg.zR G G G (Rg.zR G G G (Rg.bA G G (aH (ab G G (ab G G ?_)))))))));refine dP (A:=RT.int .i64) (hn:=by decide) (M:=M1) ah I3 q0 G G N6 (gw (wL _)) (.inr ⟨G,G⟩) (λu w8 hu s8=>?_);refine cN (M:=M1) (base:=w4.heap.size) ah I3 rfl rfl rfl rfl (th.aE s8) hu bY a03 a03 (by have:=s8.size;omega) (λv9 M9 w9 VP s9=>?_);have z8:=s8.size;have z9:=s9.size;have kx:∀k,k<w4.heap.size->¬gy u0 k:=λk hk h=>by have:=(ho.base k h).1;omega
      have RI:=s9.keep (s8.aP hE6) (kx be k3);have hA9:=s9.keep (s8.aP hA6) (kx ba k3);have hB9:=s9.keep (s8.aP hB6) (kx bb k3);have S9:=(S6.aw s8).cC s9 (th.aE s8) k3;have X4:=s9.lt (s8.lt N6);have RJ:M9 be:=(s9.mem be k3).2 hMe;have RL:M9 ba:=(s9.mem ba k3).2 hMa;refine Rg.bA G G (aH (ab G G (fQ G G G k3 (Rg.bA G G ?_))));refine⟨G,(many-1,(IntKind.i64.wrap (last+IntKind.i64.wrap ((get b a1).1+1))),v9,acc++[(IntKind.i64.wrap (last+IntKind.i64.wrap ((get b a1).1+1)))],(if(get b a1).2.2=0/\4611686018427387904-last-1<(get b a1).1 then 2 else(get b a1).2.2),(get b a1).2.1),a56,?_,?_⟩
      ·have hx:(get b a1).2.2=0->¬4611686018427387904-last-1<(get b a1).1->(IntKind.i64.wrap (last+IntKind.i64.wrap ((get b a1).1+1)))=last+1+(get b a1).1:=λh1 h2=>by rw[lU ((get b a1).1+1) k3,lU _ k3];omega
       have W9:many=(many-1)+1:=by omega
       have BK:=Uu c6;rw[W9]at BK;refine⟨by simp only;omega,λh=>?_,λh=>?_,λh=>?_,by have:=hok c6;simp only[aY,dG,lM];omega,M9,X4,S9,by omega,RJ,RL,VP,?_,hA9,hB9⟩
       ·dsimp only at h ⊢;have h3:(get b a1).2.2=0/\¬4611686018427387904-last-1<(get b a1).1:=by split at h<;>omega
        rw[BK,qZ acc h3.1 h3.2,hx h3.1 h3.2]
       ·dsimp only at h ⊢;rw[BK]
        split
        ·rename_i h4;rw[yu h4.1 h4.2];rfl
        ·rename_i h4
         have h5:(get b a1).2.2≠0:=by intro h6;rw[if_neg h4]at h;exact h h6
         rw[wi h5];unfold andThen;rw[if_pos h5]
       ·dsimp only at h ⊢;have h3:(get b a1).2.2=0/\¬4611686018427387904-last-1<(get b a1).1:=by split at h<;>omega
        have:=yt h3.1;rw[hx h3.1 h3.2];simp only[aY,dG,lM];omega
       ·dsimp only
        first
        |(rw[if_pos ⟨E2,c9⟩];exact RI)
        |(rw[if_neg (λh=>c9 h.2)];exact RI)
        |(rw[if_neg (λh=>E2 h.1)];exact RI)
      ·simp only;omega
     ·refine aR (T.aQ (ab G G (ab G G (Rg.zR G G G (Rg.zR G G G (Rg.bA G G (aH (ab G G (ab G G ?_)))))))));refine dP (A:=RT.int .i64) (hn:=by decide) (M:=M1) ah I3 q0 G G N6 (gw (wL _)) (.inr ⟨G,G⟩) (λu w8 hu s8=>?_);refine cN (M:=M1) (base:=w4.heap.size) ah I3 rfl rfl rfl rfl (th.aE s8) hu bY a03 a03 (by have:=s8.size;omega) (λv9 M9 w9 VP s9=>?_);have z8:=s8.size;have z9:=s9.size;have kx:∀k,k<w4.heap.size->¬gy u0 k:=λk hk h=>by have:=(ho.base k h).1;omega
      have RI:=s9.keep (s8.aP hE6) (kx be k3);have hA9:=s9.keep (s8.aP hA6) (kx ba k3);have hB9:=s9.keep (s8.aP hB6) (kx bb k3);have S9:=(S6.aw s8).cC s9 (th.aE s8) k3;have X4:=s9.lt (s8.lt N6);have RJ:M9 be:=(s9.mem be k3).2 hMe;have RL:M9 ba:=(s9.mem ba k3).2 hMa;refine Rg.bA G G (aH (ab G G (fQ G G G k3 (Rg.bA G G ?_))));refine⟨G,(many-1,(IntKind.i64.wrap (last+IntKind.i64.wrap ((get b a1).1+1))),v9,acc++[(IntKind.i64.wrap (last+IntKind.i64.wrap ((get b a1).1+1)))],(if(get b a1).2.2=0/\4611686018427387904-last-1<(get b a1).1 then 2 else(get b a1).2.2),(get b a1).2.1),a56,?_,?_⟩
      ·have hx:(get b a1).2.2=0->¬4611686018427387904-last-1<(get b a1).1->(IntKind.i64.wrap (last+IntKind.i64.wrap ((get b a1).1+1)))=last+1+(get b a1).1:=λh1 h2=>by rw[lU ((get b a1).1+1) k3,lU _ k3];omega
       have W9:many=(many-1)+1:=by omega
       have BK:=Uu c6;rw[W9]at BK;refine⟨by simp only;omega,λh=>?_,λh=>?_,λh=>?_,by have:=hok c6;simp only[aY,dG,lM];omega,M9,X4,S9,by omega,RJ,RL,VP,?_,hA9,hB9⟩
       ·dsimp only at h ⊢;have h3:(get b a1).2.2=0/\¬4611686018427387904-last-1<(get b a1).1:=by split at h<;>omega
        rw[BK,qZ acc h3.1 h3.2,hx h3.1 h3.2]
       ·dsimp only at h ⊢;rw[BK]
        split
        ·rename_i h4;rw[yu h4.1 h4.2];rfl
        ·rename_i h4
         have h5:(get b a1).2.2≠0:=by intro h6;rw[if_neg h4]at h;exact h h6
         rw[wi h5];unfold andThen;rw[if_pos h5]
       ·dsimp only at h ⊢;have h3:(get b a1).2.2=0/\¬4611686018427387904-last-1<(get b a1).1:=by split at h<;>omega
        have:=yt h3.1;rw[hx h3.1 h3.2];simp only[aY,dG,lM];omega
       ·dsimp only
        first
        |(rw[if_pos ⟨E2,c9⟩];exact RI)
        |(rw[if_neg (λh=>c9 h.2)];exact RI)
        |(rw[if_neg (λh=>E2 h.1)];exact RI)
      ·simp only;omega
    ·refine ao G G G G (ao G G G G (ao G G G G (ao G G G G (ao G G G G (aM G G G (ad (jD G (aR (T.aQ (ab G G ?_))))))))));refine ab G G (Rg.zR G G G (Rg.zR G G G (Rg.bA G G (aH (ab G G (ab G G ?_))))));refine dP (A:=RT.int .i64) (hn:=by decide) (M:=M1) ah I3 q0 G G N6 (gw (wL _)) (.inr ⟨G,G⟩) (λu w8 hu s8=>?_);refine cN (M:=M1) (base:=w4.heap.size) ah I3 rfl rfl rfl rfl (th.aE s8) hu bY a03 a03 (by have:=s8.size;omega) (λv9 M9 w9 VP s9=>?_);have z8:=s8.size;have z9:=s9.size;have kx:∀k,k<w4.heap.size->¬gy u0 k:=λk hk h=>by have:=(ho.base k h).1;omega
     have RI:=s9.keep (s8.aP hE6) (kx be k3);have hA9:=s9.keep (s8.aP hA6) (kx ba k3);have hB9:=s9.keep (s8.aP hB6) (kx bb k3);have S9:=(S6.aw s8).cC s9 (th.aE s8) k3;have X4:=s9.lt (s8.lt N6);have RJ:M9 be:=(s9.mem be k3).2 hMe;have RL:M9 ba:=(s9.mem ba k3).2 hMa;refine Rg.bA G G (aH (ab G G (fQ G G G k3 (Rg.bA G G ?_))));refine⟨G,(many-1,(IntKind.i64.wrap (last+IntKind.i64.wrap ((get b a1).1+1))),v9,acc++[(IntKind.i64.wrap (last+IntKind.i64.wrap ((get b a1).1+1)))],(if(get b a1).2.2=0/\4611686018427387904-last-1<(get b a1).1 then 2 else(get b a1).2.2),(get b a1).2.1),a56,?_,?_⟩
     ·have hx:(get b a1).2.2=0->¬4611686018427387904-last-1<(get b a1).1->(IntKind.i64.wrap (last+IntKind.i64.wrap ((get b a1).1+1)))=last+1+(get b a1).1:=λh1 h2=>by rw[lU ((get b a1).1+1) k3,lU _ k3];omega
      have W9:many=(many-1)+1:=by omega
      have BK:=Uu c6;rw[W9]at BK;refine⟨by simp only;omega,λh=>?_,λh=>?_,λh=>?_,by have:=hok c6;simp only[aY,dG,lM];omega,M9,X4,S9,by omega,RJ,RL,VP,?_,hA9,hB9⟩
      ·dsimp only at h ⊢;have h3:(get b a1).2.2=0/\¬4611686018427387904-last-1<(get b a1).1:=by split at h<;>omega
       rw[BK,qZ acc h3.1 h3.2,hx h3.1 h3.2]
      ·dsimp only at h ⊢;rw[BK]
       split
       ·rename_i h4;rw[yu h4.1 h4.2];rfl
       ·rename_i h4
        have h5:(get b a1).2.2≠0:=by intro h6;rw[if_neg h4]at h;exact h h6
        rw[wi h5];unfold andThen;rw[if_pos h5]
      ·dsimp only at h ⊢;have h3:(get b a1).2.2=0/\¬4611686018427387904-last-1<(get b a1).1:=by split at h<;>omega
       have:=yt h3.1;rw[hx h3.1 h3.2];simp only[aY,dG,lM];omega
      ·dsimp only
       first
       |(rw[if_pos ⟨E2,c9⟩];exact RI)
       |(rw[if_neg (λh=>c9 h.2)];exact RI)
       |(rw[if_neg (λh=>E2 h.1)];exact RI)
     ·simp only;omega
   ·refine cO (aI (T.aQ (aV zd G G G W4 G (fH G G G (ad ?_)))));refine bM G (λJz=>?_) (λJz=>?_)
    ·refine aI ?_;apply jU mixed rfl rfl;intro VK JZ;have j4:=JZ M1;refine aV zd G G G (by first|assumption|exact dE j4 W4) G (Rg.bL (aB G G (Rg.bL (aB G G (Rg.bL (aB G G (Rg.bL (dD (aT ?_)))))))));have hr:=Nq Jz;exact vh rfl rfl rfl rfl ⟨_,by rw[hr]<;>rfl,by rw[hr];exact mX,(S.aw j4).back⟩
    ·refine aR (aI ?_);apply jU mixed rfl rfl;intro aaU RM;have sO:=RM M1;refine ab G G (Rg.bL (aV aq G G G (by first|assumption|exact dE sO W4) G (Rg.bL (aB G G (Rg.bL (aB G G (Rg.bL (aB G G (Rg.bL (dD (aT ?_)))))))))));have hz:many=0:=by omega
     have hr:=Uu k3;rw[hz,AV]at hr;simp only[andThen,ne_eq,not_true_eq_false,if_false,eJ]at hr;have S15:=S.aw sO;refine vh rfl rfl rfl rfl ⟨_,by rw[hr]<;>rfl,?_,S15.back⟩;rw[hr];exact gT hM S15 ((ho.aE sO).kj k3) (by simp only;omega)
  ·refine ao G G G G (ao G G G G (aM G G G (ad (jD G (cO (aI (T.aQ (aV zd G G G W4 G (fH G G G (ad ?_))))))))));refine bM G (λJz=>?_) (λJz=>?_)
   ·refine aI ?_;apply jU mixed rfl rfl;intro VK JZ;have j4:=JZ M1;refine aV zd G G G (by first|assumption|exact dE j4 W4) G (Rg.bL (aB G G (Rg.bL (aB G G (Rg.bL (aB G G (Rg.bL (dD (aT ?_)))))))));have hr:=Nq Jz;exact vh rfl rfl rfl rfl ⟨_,by rw[hr]<;>rfl,by rw[hr];exact mX,(S.aw j4).back⟩
   ·refine aR (aI ?_);apply jU mixed rfl rfl;intro aaU RM;have sO:=RM M1;refine ab G G (Rg.bL (aV aq G G G (by first|assumption|exact dE sO W4) G (Rg.bL (aB G G (Rg.bL (aB G G (Rg.bL (aB G G (Rg.bL (dD (aT ?_)))))))))));have hz:many=0:=by omega
    have hr:=Uu k3;rw[hz,AV]at hr;simp only[andThen,ne_eq,not_true_eq_false,if_false,eJ]at hr;have S15:=S.aw sO;refine vh rfl rfl rfl rfl ⟨_,by rw[hr]<;>rfl,?_,S15.back⟩;rw[hr];exact gT hM S15 ((ho.aE sO).kj k3) (by simp only;omega)
theorem yM {M:aJ} {w0:World} {v u:Value} {a b:List Int} (hM:Lt M w0) (hv:((RT.int .i64).sl).V M w0 a v) (hu:((RT.int .i64).sl).V M w0 b u):
  Spec Tryz.prog 33 #[v,u] w0 (λv' w'=>v'= .bool (decide (a=b))/\Step M w0 M w' aA):=by
 have hla:=dZ hv;have OZ:=dZ hu;refine bF (args:=[_,_]) (fn:=Tryz.f33) Tryz.func33 G (n:=26) Tryz.ntmps33 (T.aQ (Rg.bA G G (aI (T.aQ (ab G G (bK ah G hv G (ab G G (bK ah G hu G ?_))))))));refine fH G G G (ad ?_);refine bM G (λc1=>?_) (λc1=>?_)
 ·refine T.aQ (Rg.bA G G (aT ?_));refine aX G G ⟨?_,bz⟩;rw[decide_eq_false];rintro rfl;exact c1 G
 ·obtain hlen:a.length=b.length:=by omega
  refine aR (aI (T.aQ (Rg.bA G G (aS ?_))));refine dg (σ:=Nat) (λs=>[(0,v),(1,u),(5,.int .i64 s)]) (λs w=>s<=a.length/\a.take s=b.take s/\Step M w0 M w aA) (λs=>a.length-s) 0 a06 ?_ ?_
  ·exact⟨bC _,by simp,bz⟩
  ·rintro k w1 ⟨hk,heq,s1⟩;refine aI (T.aQ (ab G G (ab G G (bK ah G hv G (ch G G G (ad ?_))))));refine bM G (λc4=>?_) (λc4=>?_)
   ·refine aR (aI (aS (aI ?_)));obtain⟨x,hx⟩:∃x,a[k]? =some x:=⟨_,al k3⟩;obtain⟨y,hy⟩:∃y,b[k]? =some y:=⟨_,al k3⟩;apply T.draw (M:=M) mixed [cM.eq _,cM.eq _,cM.ptr (RT.int .i64) x,cM.eq _,cM.eq _,cM.eq _,cM.ptr (RT.int .i64) y,cM.eq _,cM.eq _]
    ·rfl
    ·refine aF ?_ ?_
     ·intro wD E sD;refine ab G G ?_;exact a01
     refine aF ?_ ?_
     ·intro wD E sD;refine ab G G ?_;exact a01
     refine aF ?_ ?_
     ·intro wD E sD;refine aC (aC ?_);refine bX (M:=M) ah I3 G G G hv (by repeat (first|exact bH _ _|refine aZ (bI W4) ?_)) k3 (λVd aoe af7 xJ=>?_);obtain rfl:aoe=x:=ar (af7.symm.trans a65);exact ad ⟨G,G,_,G,xJ,bz⟩
     refine aF ?_ ?_
     ·intro wD E sD;intro v2 yz;refine bV (M:=M) aq G G W4 (by repeat (first|exact bH _ _|refine aZ (bI W4) ?_)) (λaf8=>?_);exact a01
     refine aF ?_ ?_
     ·intro wD E sD;refine ab G G ?_;exact a01
     refine aF ?_ ?_
     ·intro wD E sD;refine ab G G ?_;exact a01
     refine aF ?_ ?_
     ·intro wD E sD;refine aC (aC ?_);refine bX (M:=M) ah I3 G G G hu (by repeat (first|exact bH _ _|refine aZ (bI W4) ?_)) k3 (λaAc aof af9 aga=>?_);obtain rfl:aof=y:=ar (af9.symm.trans af4);exact ad ⟨G,G,_,G,aga,bz⟩
     refine aF ?_ ?_
     ·intro wD E sD;intro v6 wz;refine bV (M:=M) aq G G W4 (by repeat (first|exact bH _ _|refine aZ (bI W4) ?_)) (λauV=>?_);exact a01
     refine aF ?_ ?_
     ·intro wD E sD;refine aC (aC (fH G G G ?_));exact a01
     exact yh
    ·intro X5 o6;refine aC (aC ?_);intro aog agb;refine aC (aC (aC ?_));intro aAd auW;refine aC (aC ?_);refine bM G (λc6=>?_) (λc6=>?_)
     ·refine T.aQ (Rg.bA G G (aT ?_));refine aX G G ⟨?_,s1.aw o6⟩;rw[decide_eq_false];rintro rfl;rw[hx]at hy;cases hy;exact c6 G
     ·refine aR (aH (ab G G (bG G G G k3 (Rg.bA G G ?_))));refine⟨G,k+1,a06,?_,?_⟩
      ·exact⟨by omega,by rw[eF k3,eF k3,heq];obtain⟨_,h1⟩:=aj.1 hx;obtain⟨_,h2⟩:=aj.1 hy;rw[h1,h2,dj.1 c6],s1.aw o6⟩
      ·show a.length-(k+1)<a.length-k;omega
   ·refine cO (T.aQ (Rg.bA G G (aT ?_)));refine aX G G ⟨?_,s1⟩;rw[decide_eq_true]
    rwa [aL k3,aL k3]at heq
theorem J5 {M:aJ} {w0:World} {v:Value} {l:List Int} (hM:Lt M w0) (hv:((RT.int .i64).sl).V M w0 l v):
  Spec Tryz.prog 122 #[v] w0 (λv' w'=>v'= .bool (eT (-1) l)/\Step M w0 M w' aA):=by
 have hlen:=dZ hv;refine bF (args:=[_]) (fn:=Tryz.f122) Tryz.func122 G (n:=31) Tryz.ntmps122 (T.aQ (Rg.bA G G (aI (T.aQ (Rg.bA G G (aS ?_))))));refine dg (σ:=Nat×Int) (λs=>[(0,v),(3,.int .i64 s.1)]) (λs w=>Step M w0 M w aA/\s.1<=l.length/\eT (-1) l=eT s.2 (l.drop s.1)/\ -1<=s.2/\(s.1=0->s.2= -1)/\(0<s.1->l[s.1-1]? =some s.2)) (λs=>l.length-s.1) (0,-1) a38 ?_ ?_
 ·exact⟨bz,bC _,rfl,by decide,λ_=>rfl,λh=>absurd h q0⟩
 ·rintro⟨k,last⟩ w1 ⟨s1,hk,hr,hl,h0,h1⟩;dsimp only at hk hr hl h0 h1 ⊢;refine aI (T.aQ (ab G G (ab G G ?_)))
  first|refine bK ah rfl W4 rfl ?_|refine fW ah rfl W4 rfl ?_
  refine ch G G G (ad ?_);refine bM G (λc2=>?_) (λc2=>?_)
  ·refine aR (aI (aS (aI ?_)));obtain⟨x,hx⟩:∃x,l[k]? =some x:=⟨_,al k3⟩;by_cases JB:x<0
   ·apply T.draw (M:=M) mixed [cM.eq _,cM.eq _,cM.ptr (RT.int .i64) x,cM.eq _,cM.eq _,cM.eq (.bool true),cM.eq undef,cM.eq undef,cM.eq undef,cM.eq undef,cM.eq undef,cM.eq undef,cM.eq undef,cM.eq undef,cM.eq undef,cM.eq undef,cM.eq undef,cM.eq undef,cM.eq undef,cM.eq undef,cM.eq _]
    ·rfl
    ·refine aF ?_ ?_
     ·intro wD E sD;refine ab G G ?_;exact a01
     refine aF ?_ ?_
     ·intro wD E sD;refine ab G G ?_;exact a01
     refine aF ?_ ?_
     ·intro wD E sD;refine aC (aC ?_);refine bX (M:=M) ah I3 G G G W4 (by repeat (first|exact bH _ _|refine aZ (bI W4) ?_)) k3 (λJo J6 BL k5=>?_);obtain rfl:J6=x:=ar (BL.symm.trans a65);exact ad ⟨G,G,_,G,k5,bz⟩
     refine aF ?_ ?_
     ·intro wD E sD;intro v2 yz;refine bV (M:=M) aq G G W4 (by repeat (first|exact bH _ _|refine aZ (bI W4) ?_)) (λX6=>?_);exact a01
     refine aF ?_ ?_
     ·intro wD E sD;refine aC (ch G G G ?_);exact a01
     refine aF ?_ ?_
     ·intro wD E sD;refine aC (ab G G ?_);refine ad ⟨G,G,_,G,?_,bz⟩;exact congrArg Value.bool (decide_eq_true JB)
     refine aF ?_ ?_
     ·intro wD E sD;refine aC ?_;exact a14
     refine aF ?_ ?_
     ·intro wD E sD;refine aC (aC ?_);exact a14
     refine aF ?_ ?_
     ·intro wD E sD;refine aC (aC (aC ?_));exact a14
     refine aF ?_ ?_
     ·intro wD E sD;refine aC ?_;exact a71
     refine aF ?_ ?_
     ·intro wD E sD;refine aC ?_;exact a71
     refine aF ?_ ?_
     ·intro wD E sD;refine aC (aC (aC ?_));exact a71
     refine aF ?_ ?_
     ·intro wD E sD;refine aC (aC ?_);exact a71
     refine aF ?_ ?_
     ·intro wD E sD;refine aC ?_;exact a71
     refine aF ?_ ?_
     ·intro wD E sD;refine aC ?_;exact a71
     refine aF ?_ ?_
     ·intro wD E sD;refine aC (aC ?_);exact a71
     refine aF ?_ ?_
     ·intro wD E sD;refine aC (aC (aC ?_));exact a71
     refine aF ?_ ?_
     ·intro wD E sD;refine aC (aC ?_);exact a71
     refine aF ?_ ?_
     ·intro wD E sD;refine aC (aC (aC ?_));exact a71
     refine aF ?_ ?_
     ·intro wD E sD;refine aC (aC (aC ?_));exact a14
     refine aF ?_ ?_
     ·intro wD E sD;refine aC (aC (bm G G G ?_));exact a01
     exact yh
    ·intro XY sN;refine aC (aC ?_);intro aag LP;refine aC (aC (aC (aC (aC (aC (aC (aC (aC (aC (aC (aC ?_)))))))))));refine aC (aC (aC (aC (aC (aC (kT G (T.aQ (Rg.bA G G (aT ?_)))))))));refine aX G G ⟨?_,s1.aw sN⟩;rw[hr,fZ hx,decide_eq_false k3];rfl
   ·by_cases agc:(0:Int)<k
    ·obtain⟨y,hy⟩:∃y,y=last:=⟨_,rfl⟩;have UR:=h1 k3;rw[<-hy]at UR;apply T.draw (M:=M) mixed [cM.eq _,cM.eq _,cM.ptr (RT.int .i64) x,cM.eq _,cM.eq _,cM.eq (.bool false),cM.eq _,cM.eq _,cM.eq (.bool true),cM.eq _,cM.eq _,cM.ptr (RT.int .i64) x,cM.eq _,cM.eq _,cM.eq _,cM.eq _,cM.ptr (RT.int .i64) y,cM.eq _,cM.eq _,cM.eq _,cM.eq _]
     ·rfl
     ·refine aF ?_ ?_
      ·intro wD E sD;refine ab G G ?_;exact a01
      refine aF ?_ ?_
      ·intro wD E sD;refine ab G G ?_;exact a01
      refine aF ?_ ?_
      ·intro wD E sD;refine aC (aC ?_);refine bX (M:=M) ah I3 G G G W4 (by repeat (first|exact bH _ _|refine aZ (bI W4) ?_)) k3 (λJo J6 BL k5=>?_);obtain rfl:J6=x:=ar (BL.symm.trans a65);exact ad ⟨G,G,_,G,k5,bz⟩
      refine aF ?_ ?_
      ·intro wD E sD;intro v2 yz;refine bV (M:=M) aq G G W4 (by repeat (first|exact bH _ _|refine aZ (bI W4) ?_)) (λX6=>?_);exact a01
      refine aF ?_ ?_
      ·intro wD E sD;refine aC (ch G G G ?_);exact a01
      refine aF ?_ ?_
      ·intro wD E sD;refine aC (ab G G ?_);refine ad ⟨G,G,_,G,?_,bz⟩;exact congrArg Value.bool (decide_eq_false JB)
      refine aF ?_ ?_
      ·intro wD E sD;refine aC (ak G G (ab G G ?_));exact a01
      refine aF ?_ ?_
      ·intro wD E sD;refine aC (aC (ak G G (iX G G G ?_)));exact a01
      refine aF ?_ ?_
      ·intro wD E sD;refine aC (aC (aC (ak G G (ab G G ?_))));refine ad ⟨G,G,_,G,?_,bz⟩;exact congrArg Value.bool (decide_eq_true agc)
      refine aF ?_ ?_
      ·intro wD E sD;refine aC (ak G G (ab G G ?_));exact a01
      refine aF ?_ ?_
      ·intro wD E sD;refine aC (ak G G (ab G G ?_));exact a01
      refine aF ?_ ?_
      ·intro wD E sD;refine aC (aC (aC (ak G G ?_)));refine bX (M:=M) ah I3 G G G W4 (by repeat (first|exact bH _ _|refine aZ (bI W4) ?_)) k3 (λauX agd aaV aaW=>?_);obtain rfl:agd=x:=ar (aaV.symm.trans a65);exact ad ⟨G,G,_,G,aaW,bz⟩
      refine aF ?_ ?_
      ·intro wD E sD;intro v11 age;refine aC (ak G G ?_);refine bV (M:=M) aq G G W4 (by repeat (first|exact bH _ _|refine aZ (bI W4) ?_)) (λaoh=>?_);exact a01
      refine aF ?_ ?_
      ·intro wD E sD;refine aC (ak G G (ab G G ?_));exact a01
      refine aF ?_ ?_
      ·intro wD E sD;refine aC (ak G G (ab G G ?_));exact a01
      refine aF ?_ ?_
      ·intro wD E sD;refine aC (aC (ak G G (fQ G G G k3 ?_)));exact a01
      refine aF ?_ ?_
      ·intro wD E sD;refine aC (aC (aC (ak G G ?_)));refine bX (M:=M) ah I3 G G G W4 (by repeat (first|exact bH _ _|refine aZ (bI W4) ?_)) k3 (λauY agf aaX aaY=>?_);obtain rfl:agf=y:=ar (aaX.symm.trans (by rw[show((k:Int)-1).toNat=k-1 from by omega];exact UR));exact ad ⟨G,G,_,G,aaY,bz⟩
      refine aF ?_ ?_
      ·intro wD E sD;intro v16 agh;refine aC (ak G G ?_);refine bV (M:=M) aq G G W4 (by repeat (first|exact bH _ _|refine aZ (bI W4) ?_)) (λaoi=>?_);exact a01
      refine aF ?_ ?_
      ·intro wD E sD;refine aC (aC (aC (ak G G (iG G G G ?_))));exact a01
      refine aF ?_ ?_
      ·intro wD E sD;refine aC (aC (aC (ak G G (bm G G G ?_))));exact a01
      refine aF ?_ ?_
      ·intro wD E sD;refine aC (aC (aM G G G ?_));exact a01
      exact yh
     ·intro XY sN;refine aC (aC ?_);intro aag LP;refine aC (aC (aC (aC (aC (aC (aC (aC ?_)))))));intro au0 aoj;refine aC (aC (aC (aC ?_)));intro au1 aok;refine aC (aC (aC (aC ?_)));refine bM G (λc4=>?_) (λc4=>?_)
      ·refine T.aQ (Rg.bA G G (aT ?_));refine aX G G ⟨?_,s1.aw sN⟩;rw[hr,fZ hx,decide_eq_false k3];rfl
      ·refine aR (aH (ab G G (bG G G G k3 (Rg.bA G G ?_))));refine⟨G,(k+1,x),a38,?_,?_⟩
       ·refine⟨s1.aw sN,by have:=(aj.1 hx).1;simp only;omega,?_,?_,λh=>by simp at h,λ_=>by simpa using hx⟩
        ·rw[hr,fZ hx,decide_eq_true k3,fK]
        ·simp only;omega
       ·have:=(aj.1 hx).1;simp only;omega
    ·have h0':=h0 k3;apply T.draw (M:=M) mixed [cM.eq _,cM.eq _,cM.ptr (RT.int .i64) x,cM.eq _,cM.eq _,cM.eq (.bool false),cM.eq _,cM.eq _,cM.eq (.bool false),cM.eq undef,cM.eq undef,cM.eq undef,cM.eq undef,cM.eq undef,cM.eq undef,cM.eq undef,cM.eq undef,cM.eq undef,cM.eq undef,cM.eq _,cM.eq _]
     ·rfl
     ·refine aF ?_ ?_
      ·intro wD E sD;refine ab G G ?_;exact a01
      refine aF ?_ ?_
      ·intro wD E sD;refine ab G G ?_;exact a01
      refine aF ?_ ?_
      ·intro wD E sD;refine aC (aC ?_);refine bX (M:=M) ah I3 G G G W4 (by repeat (first|exact bH _ _|refine aZ (bI W4) ?_)) k3 (λJo J6 BL k5=>?_);obtain rfl:J6=x:=ar (BL.symm.trans a65);exact ad ⟨G,G,_,G,k5,bz⟩
      refine aF ?_ ?_
      ·intro wD E sD;intro v2 yz;refine bV (M:=M) aq G G W4 (by repeat (first|exact bH _ _|refine aZ (bI W4) ?_)) (λX6=>?_);exact a01
      refine aF ?_ ?_
      ·intro wD E sD;refine aC (ch G G G ?_);exact a01
      refine aF ?_ ?_
      ·intro wD E sD;refine aC (ab G G ?_);refine ad ⟨G,G,_,G,?_,bz⟩;exact congrArg Value.bool (decide_eq_false JB)
      refine aF ?_ ?_
      ·intro wD E sD;refine aC (ak G G (ab G G ?_));exact a01
      refine aF ?_ ?_
      ·intro wD E sD;refine aC (aC (ak G G (iX G G G ?_)));exact a01
      refine aF ?_ ?_
      ·intro wD E sD;refine aC (aC (aC (ak G G (ab G G ?_))));refine ad ⟨G,G,_,G,?_,bz⟩;exact congrArg Value.bool (decide_eq_false agc)
      refine aF ?_ ?_
      ·intro wD E sD;refine aC ?_;exact a14
      refine aF ?_ ?_
      ·intro wD E sD;refine aC ?_;exact a14
      refine aF ?_ ?_
      ·intro wD E sD;refine aC (aC (aC ?_));exact a14
      refine aF ?_ ?_
      ·intro wD E sD;refine aC (aC ?_);exact a14
      refine aF ?_ ?_
      ·intro wD E sD;refine aC ?_;exact a14
      refine aF ?_ ?_
      ·intro wD E sD;refine aC ?_;exact a14
      refine aF ?_ ?_
      ·intro wD E sD;refine aC (aC ?_);exact a14
      refine aF ?_ ?_
      ·intro wD E sD;refine aC (aC (aC ?_));exact a14
      refine aF ?_ ?_
      ·intro wD E sD;refine aC (aC ?_);exact a14
      refine aF ?_ ?_
      ·intro wD E sD;refine aC (aC (aC ?_));exact a14
      refine aF ?_ ?_
      ·intro wD E sD;refine aC (aC (aC (ak G G (aM G G G ?_))));exact a01
      refine aF ?_ ?_
      ·intro wD E sD;refine aC (aC (aM G G G ?_));exact a01
      exact yh
     ·intro XY sN;refine aC (aC ?_);intro aag LP;refine aC (aC (aC (aC (aC (aC (aC (aC (aC (aC (aC (aC ?_)))))))))));refine aC (aC (aC (aC (aC (aC (jD G (aR (aH (ab G G (bG G G G k3 (aB G G ?_)))))))))));refine ad ?_;refine⟨G,(k+1,x),a38,?_,?_⟩
      ·refine⟨s1.aw sN,by have:=(aj.1 hx).1;simp only;omega,?_,?_,λh=>by simp at h,λ_=>by simpa using hx⟩
       ·rw[hr,fZ hx,decide_eq_true k3,fK]
       ·simp only;omega
      ·have:=(aj.1 hx).1;simp only;omega
  ·refine cO (T.aQ (Rg.bA G G (aT ?_)));refine aX G G ⟨?_,s1⟩;rw[hr,fR k3];rfl
theorem VQ {M:aJ} {w0:World} {v:Value} {x:Li} (hv:dv RT.li M w0 v x) {k:Int}:
  Spec Tryz.prog 222 #[v,.int .i64 k] w0 (λv' w'=>v'= .bool (isB x.2.1.length k)/\w0=w'):=by
 refine bF (args:=[_,_]) (fn:=Tryz.f222) Tryz.func222 G (n:=16) Tryz.ntmps222 (T.aQ (Rg.bA G G (T.aQ (ab G G (eP G G G (ab G G ?_))))));refine aW (g:=7) G (λjM=>?_) (λjM=>?_)
 ·refine ak G G (ab G G (ak G G (ab G G (ak G G (cu G (dv.iZ W4) G (ak G G ?_))))));refine aD (M:=M) (A:=RT.li) (B:=(RT.bl).sl) fu G G Nz q0 (li1) G G q0 W4 (by repeat (first|exact bH _ _|refine aZ (bI W4) ?_)) (λaAf au2=>?_);refine ak G G ?_;refine bE (M:=M) j0 G G G G G W4 (by repeat (first|exact bH _ _|refine aZ (bI W4) ?_)) (λagi X7=>?_);refine ak G G ?_
  first|refine bK j0 rfl W4 rfl ?_|refine fW j0 rfl W4 rfl ?_
  refine ak G G (ch G G G (bm G G G (Rg.bA G G (aT ?_))))
  first
  |exact a97
  |exact a94
 ·refine ao G G G G (ao G G G G (ao G G G G (ao G G G G (ao G G G G (ao G G G G (ao G G G G (aM G G G (Rg.bA G G (aT ?_)))))))))
  first
  |exact a97
  |exact a94
theorem J7 {M:aJ} {w0:World} {v:Value} {b:List UInt8} {at_ ahead:Int} (hM:Lt M w0) (hv:(RT.u8.sl).V M w0 b v) (RG: -9223372036854775808<=at_/\at_<=9223372036854775807) (hah: -9223372036854775808<=ahead/\ahead<=9223372036854775807) (mn:b.length<=1099511627776):
  Spec Tryz.prog 223 #[v,.int .i64 at_,.int .i64 ahead] w0 (λv' w'=>∃p,v'= .tuple #[p,.int .i64 (vw b at_ ahead).2.1,.int .i64 (vw b at_ ahead).2.2]/\RT.po.V M w' (vw b at_ ahead).1 p/\Step M w0 M w' aA):=by
 refine bF (args:=[_,_,_]) (fn:=Tryz.f223) Tryz.func223 G (n:=38) Tryz.ntmps223 (T.aQ ?_);refine eA M ng G (λb0 w1 hb0 aAg hB s1=>?_);have mV:=s1.lt hM;have Cv:=hv.le s1.le;refine aB G G (Rg.bA G G (T.aQ (ab G G (ab G G ?_))));refine a8 G G aeH (Hq Cv RG) (λr w2 h2=>?_);obtain⟨rfl,rfl⟩:=h2;have AI:=Dx b at_;obtain⟨hn0,hn1,hn2,hn3⟩:=re b at_;refine ab G G (cq G G G (cq G G G (cq G G G (aB G G (aB G G (Rg.bA G G (aI (T.aQ (ab G G ?_)))))))));refine fH G G G (ad ?_);refine bM G (λc2=>?_) (λc2=>?_)
 ·refine T.aQ (ie (places:=[(0,1),(1,1)]) bW ng ZE G G (out:=[.int .i64 0,.slice none 0 0]) G (ab G G ?_));refine ej (M:=ins M b0) ng G G (by intro u hu;simp at hu;rcases hu with rfl|rfl<;>rfl) rfl rfl hB (.inl rfl) (λw3 hB3 s3=>?_);refine aB G G (Rg.bA G G (aT ?_));have lu:=s1.size;have S:Step M w0 M w3 aA:=(s1.cL s3 (λk hk=>by subst hk;omega)).back;refine PB G G bW G ng G hB3 G G ⟨_,by unfold vw;rw[if_pos c2]<;>rfl,?_,S⟩;unfold vw;rw[if_pos c2];exact fE (gw (x:=0) k3) mX G G G G
 ·refine aR (T.aQ (ab G G (ab G G ?_)));have hok:=yt (b:=b) (at_:=at_) k3;refine a8 G G al9 (BJ (M:=ins M b0) mV Cv k3 mn) (λr w3 h3=>?_);obtain⟨x3,rfl,N7,s3⟩:=h3;refine ab G G (cq G G G (cq G G G (cq G G G (aB G G (aB G G (Rg.bA G G (T.aQ (ab G G (Rg.zR G G G ?_)))))))));refine ab rfl rfl (Rg.zR rfl rfl rfl (ab rfl rfl (ie (places:=[(0,1),(1,1)]) bW ng ZE rfl ⟨_,_,rfl,rfl,_,_,rfl,rfl,rfl⟩ (out:=[_,_]) ⟨0,[_],rfl,rfl,by simp[Value.cells],1,[_],rfl,jo N7,by simp[Value.cells],rfl⟩ (ab rfl rfl (ab rfl rfl ?_)))));obtain⟨vx,uV⟩:∃vx,vx=x3:=⟨_,rfl⟩;have vY:=mv N7 rfl rfl;refine ej (M:=ins M b0) ng G G (by intro u hu;simp at hu;rcases hu with rfl|rfl;rfl;exact vY) G G (s3.aP hB) (.inl G) (λw4 hB4 s4=>?_);refine aB G G (Rg.bA G G (aT ?_));have lu:=s1.size;have aAi:=s3.size;have S3:=s1.aw s3;have S:Step M w0 M w4 aA:=(S3.cL s4 (λk hk=>by subst hk;omega)).back;refine PB G G bW G ng G hB4 G G ⟨_,by unfold vw;rw[if_neg c2]<;>rfl,?_,S⟩;unfold vw;rw[if_neg c2];have hx4:=(N7.le s4.le).le (CC hM (S3.cL s4 (λk hk=>by subst hk;omega)));exact fE (gw PC) hx4 G G G G
theorem J8 {M:aJ} {w0:World} {v:Value} {l:List Po} {k:Int} (hM:Lt M w0) (hv:dv RT.li M w0 v (pJ l)) (pg:ik (-1) l=true) (l4:∀p∈l,p.2.length<=1099511627776) (mn:(eY (-1) l).length<=1099511627776):
  Spec Tryz.prog 180 #[v,.int .i64 k] w0 (λv' w'=>Step M w0 M w' aA/\((RT.po).sl).V M w' (if isB ((l.length+7)/8) k then(l.drop (8*k.toNat)).take 8 else[]) v'):=by
 have agj:(pJ l).2.1.length=(l.length+7)/8:=by simp[pJ,uR]
 refine bF (args:=[_,_]) (fn:=Tryz.f180) Tryz.func180 G (n:=51) Tryz.ntmps180 (T.aQ (Rg.bA G G (aI (T.aQ (ab G G (ab G G ?_))))));refine a8 G G alY (VQ hv (k:=k)) (λr w1 h1=>?_);obtain⟨rfl,rfl⟩:=h1;refine kU G G (bc (v':= .bool (decide (¬(0<=k/\k<(pJ l).2.1.length)))) (by unfold isB;rw[decide_not]) (ad ?_));refine bM G (λc1=>?_) (λc1=>?_)
 ·refine T.aQ (Rg.bA G G (aT (aX G G ⟨bz,?_⟩)));rw[if_neg (by unfold isB;rw[agj]at c1;simpa using c1)];exact mX
 ·refine aR (T.aQ (ab G G (cu G (dv.iZ W4) G ?_)));refine aD (M:=M) (A:=RT.li) (B:=(RT.bl).sl) fu G G Nz q0 (li1) G G q0 W4 (by repeat (first|exact bH _ _|refine aZ (bI W4) ?_)) (λVm xx=>?_);refine bE (M:=M) j0 G G G G G W4 (by repeat (first|exact bH _ _|refine aZ (bI W4) ?_)) (λaol agk=>?_);refine ab G G ?_;obtain⟨j,rfl⟩:∃j:Nat,k=j:=⟨k.toNat,by omega⟩;have hb:(pJ l).2.1[j]? =some (zp l j):=by simp only[pJ,uR,bj];rw[Cu k3];rfl
  refine bX j0 Ew G G G W4 bY k3 (λaAk aom agl au3=>?_);obtain rfl:aom=zp l j:=ar (agl.symm.trans ak8);have XV:(zp l j).2.2.2=(((l.drop (8*j)).take 8).length:Int):=rfl;have au4:((l.drop (8*j)).take 8).length<=8:=by rw[aU];omega
  refine cW (M:=M) (A:=RT.bl) vU G Ew q0 G G G W4 (by repeat (first|exact bH _ _|refine aZ (bI W4) ?_)) (λaAl au5=>?_);refine vS (A:=RT.bl) (M:=M) Ew G G G G G W4 (by repeat (first|exact bH _ _|refine aZ (bI W4) ?_)) a74 (λaon aaZ au6 aa0 aAm=>?_);refine ad (T.aQ (Rg.bA G G (aI (aI ?_))));apply T.draw (M:=M) mixed [cM.ptr (RT.int .i64) (zp l j).1,cM.eq _,cM.ptr (RT.int .i64) (zp l j).2.1,cM.eq _,cM.eq _,cM.eq _]
  ·rfl
  ·refine aF ?_ ?_
   ·intro wD E sD;refine aD (M:=M) (A:=RT.bl) (B:=RT.int .i64) vU G G I3 q0 (bl0) G G q0 W4 (by repeat (first|exact bH _ _|refine aZ (bI W4) ?_)) (λafY L7=>?_);exact ad ⟨G,G,_,G,by assumption,bz⟩
   refine aF ?_ ?_
   ·intro wD E sD;intro v0 Un;refine bV (M:=M) aq G G W4 (by repeat (first|exact bH _ _|refine aZ (bI W4) ?_)) (λX8=>?_);exact a01
   refine aF ?_ ?_
   ·intro wD E sD;refine aD (M:=M) (A:=RT.bl) (B:=RT.int .i64) vU G G I3 q0 (bl1) G G q0 W4 (by repeat (first|exact bH _ _|refine aZ (bI W4) ?_)) (λaoo zC=>?_);exact ad ⟨G,G,_,G,by assumption,bz⟩
   refine aF ?_ ?_
   ·intro wD E sD;intro v2 yz;refine bV (M:=M) aq G G W4 (by repeat (first|exact bH _ _|refine aZ (bI W4) ?_)) (λau7=>?_);exact a01
   refine aF ?_ ?_
   ·intro wD E sD;refine aC ?_;intro v0 Un;refine aC (aB G G ?_);exact a01
   refine aF ?_ ?_
   ·intro wD E sD;refine aC (aC ?_);intro v0 Un;refine aC ?_;intro v2 yz;refine aC (aC (aB G G ?_));exact a01
   exact yh
  ·intro wD5 yK;intro aAn au8;refine aC ?_;intro amO XD;refine aC (aC (aC (aS ?_)));have hz5:=aa0.size;refine dg (σ:=Nat×Value) (λs=>[(0,v),(5,aon),(6,s.2),(7,.int .i64 (eY (-1) (l.take (8*j+s.1))).length),(8,.int .i64 (eg (-1) (l.take (8*j+s.1))))]) (λs w=>s.1<=((l.drop (8*j)).take 8).length/\∃M1,Lt M1 w/\Step M w0 M1 w aA/\Step M aaZ M1 w aA/\Own RT.po 83 M1 w aaZ.heap.size s.2 (((l.drop (8*j)).take 8).take s.1)) (λs=>((l.drop (8*j)).take 8).length-s.1) (0,_) a19 ?_ ?_
   ·exact⟨bC _,M,yK.lt (aa0.lt hM),aa0.aw yK,yK,dh _ _ _ _ _⟩
   ·rintro⟨i,u0⟩ w1 ⟨hi,M1,mV,S,S5,ho⟩;dsimp only at hi ho ⊢;refine aI (T.aQ (ab G G (fW bu G ho G (bc (v':= .int .i64 i) (by rw[aU,jB hi]) ?_))));refine aD (M:=M1) (A:=RT.bl) (B:=RT.int .i64) vU G G I3 q0 (bl3) G G q0 W4 (by repeat (first|exact bH _ _|refine aZ (bI W4) ?_)) (λVd xJ=>?_);refine bV aq G G xJ bY (λaf8=>?_);refine bc (v':= .int .i64 ((l.drop (8*j)).take 8).length) G (ch G G G (ad ?_));refine bM G (λc6=>?_) (λc6=>?_)
    ·refine aR (aS (T.aQ (ab G G (cu G (dv.iZ W4) G ?_))));refine aD (M:=M1) (A:=RT.li) (B:=RT.u8.sl) fu G G Gl q0 (li0) G G q0 W4 (by repeat (first|exact bH _ _|refine aZ (bI W4) ?_)) (λafK vG=>?_);refine bE (M:=M1) cf G G G G G W4 (by repeat (first|exact bH _ _|refine aZ (bI W4) ?_)) (λagm RN=>?_);refine ab G G (ab G G ?_);obtain⟨⟨d,ps⟩,hx⟩:∃x,l[8*j+i]? =some x:=⟨_,al (by rw[aU,dS]at c6;omega)⟩;obtain⟨f1,f2,f3,f4,f5,f6⟩:=Et pg hx;have NM:vw (pJ l).1 _ _=_:=PE pg hx (l4 _ (au hx));have uP:(eY (-1) (l.take (8*j+i))).length<=(eY (-1) l).length:=by rw[tz (l:=l) (i:=8*j+i) (-1)];simp
     refine a8 G G alZ (J7 (M:=M1) mV RN k3 k3 mn) (λr7 w7 h7=>?_);obtain⟨p7,h7e,hp7,s7⟩:=h7;rw[NM]at h7e hp7;subst h7e;change RT.po.V M1 w7 (d,ps) p7 at hp7;replace S:=S.aw s7;replace S5:=S5.aw s7;replace ho:=ho.aE s7;replace mV:=s7.lt mV;have hci:((l.drop (8*j)).take 8)[i]? =some (d,ps):=by rw[cY,if_pos k3,ti];exact hx
     refine ab G G (cq G G G (cq G G G (cq G G G ?_)));refine vS (A:=RT.po) (M:=M1) ng G G G G G W4 (by repeat (first|exact bH _ _|refine aZ (bI W4) ?_)) a74 (λava avb RO L8 avc=>?_);refine aB G G (Rg.bA G G (T.aQ (ab G G ?_)));replace S:=S.aw L8;replace S5:=S5.aw L8;replace ho:=ho.aE L8;replace mV:=L8.lt mV;clear hp7;refine cW (A:=RT.po) bW G ng q0 G G G RO bY (λv8 Hf=>?_);refine dP (A:=RT.po) (hn:=by decide) (M:=M1) bu ng q0 G G mV Hf (.inl G) (λu2 w2 mu s2=>?_);refine cN (M:=M1) (base:=aaZ.heap.size) bu ng rfl rfl rfl rfl (ho.aE s2) mu bY a03 a03 (eG S5.size s2.size) (λv3 M3 w3 BH s3=>?_);replace S:=(S.aw s2).cC s3 (ho.aE s2) hz5;have hu9:=(RO.le q0 s2.le).le q0 s3.le;have hM3:=s3.lt (s2.lt mV);replace S5:=(S5.aw s2).cC s3 (ho.aE s2) (aN _);refine Rg.bA G G ?_;apply T.draw (M:=M3) mixed [cM.eq _,cM.ptr (RT.int .i64) d,cM.eq _,cM.eq _,cM.eq _]
     ·rfl
     ·refine aF ?_ ?_
      ·intro wD E sD;refine ab G G ?_;exact a01
      refine aF ?_ ?_
      ·intro wD E sD;refine aD (M:=M3) (A:=RT.po) (B:=RT.int .i64) bW G G I3 q0 (Nv) G G q0 hu9 sD.le (λanE Ru=>?_);exact ad ⟨G,G,_,G,Ru,bz⟩
      refine aF ?_ ?_
      ·intro wD E sD;intro v1 Cv;refine bV (M:=M3) aq G G W4 (by repeat (first|exact bH _ _|refine aZ (bI W4) ?_)) (λavd=>?_);exact a01
      refine aF ?_ ?_
      ·intro wD E sD;refine aC (aC (aB G G ?_));exact a01
      refine aF ?_ ?_
      ·intro wD E sD;refine aC (aC (aC ?_));intro v1 Cv;refine aC (aC (aB G G ?_));exact a01
      exact yh
     ·intro Uv Cx;refine aC ?_;intro aAp ave;refine aC (aC (aC ?_));refine⟨rfl,(i+1,v3),(.cons rfl (.cons rfl (.cons rfl (.cons rfl (.cons (by rw[<-f5];rfl) .nil))))),?_,?_⟩
      ·refine ⟨by simp only;omega,M3,Cx.lt hM3,S.aw Cx,S5.aw Cx,?_⟩;simp only;obtain⟨PW,PX⟩:=aj.1 hci;rw[eF PW,PX];exact BH.aE Cx
      ·simp only;omega
    ·refine cO (T.aQ (ab G G (Rg.bA G G (aT (aX G G ⟨S.back,?_⟩)))));rw[if_pos (by unfold isB;rw[agj]at c1;simpa using c1),an];rw[aL k3]at ho;exact gT hM S (ho.kj hz5) k3
theorem Hs {M:aJ} {w0:World} {v:Value} {l:List Int} (hv:((RT.int .i64).sl).V M w0 l v):
  Spec Tryz.prog 249 #[v] w0 (λv' w'=>v'= .bool (rf l)/\w0=w'):=by
 have hlen:=dZ hv;refine bF (args:=[_]) (fn:=Tryz.f249) Tryz.func249 G (n:=32) Tryz.ntmps249 (T.aQ (Rg.bA G G (aI (T.aQ (ab G G ?_)))))
 first|refine bK ah rfl W4 rfl ?_|refine fW ah rfl W4 rfl ?_
 refine ab G G (ad (aS ?_));refine dg (σ:=Nat×Int) (λs=>[(0,v),(5,v),(6,.int .i64 l.length),(7,.int .i64 s.1)]) (λs w=>w0=w/\s.1<=l.length/\rf l=(eT s.2 (l.drop s.1)&&(l.drop s.1).all (λn=>decide (n<2147483648)))/\ -1<=s.2/\(s.1=0->s.2= -1)/\(0<s.1->l[s.1-1]? =some s.2)) (λs=>l.length-s.1) (0,-1) Y7 ?_ ?_
 ·exact⟨rfl,bC _,rfl,by decide,λ_=>rfl,λh=>absurd h (kQ 0)⟩
 ·rintro⟨k,last⟩ w1 ⟨rfl,hk,hr,hl0,h0,h1⟩;dsimp only at hk hr hl0 h0 h1 ⊢;refine T.aQ (ch G G G (ad (aI ?_)));refine bM G (λc2=>?_) (λc2=>?_)
  ·refine aR (aI (aS (T.aQ (ab G G ?_))));obtain⟨x,hx⟩:∃x,l[k]? =some x:=⟨_,al k3⟩;refine bX ah I3 G G G hv bY k3 (λaAq aoq ago avf=>?_);obtain rfl:x=aoq:=dw (ar (ago.symm.trans a65));refine bV (M:=M) aq G G W4 (by repeat (first|exact bH _ _|refine aZ (bI W4) ?_)) (λavg=>?_);refine aB G G (Rg.bA G G (T.aQ (ab G G (ch G G G (ab G G ?_)))));refine aW (g:=14) G (λkM=>?_) (λkM=>?_)
   ·refine ao G G G G (ao G G G G (bm G G G (ab G G (ao G G G G (ao G G G G (ao G G G G (cj G G G (cj G G G (cj G G G (cj G G G (cj G G G ?_)))))))))));refine cj G G G (cj G G G (ao G G G G (bm G G G (ad (kT G (T.aQ (Rg.bA G G (aT ?_))))))));refine aX G G ⟨congrArg Value.bool (dw ?_),G⟩;rw[hr,fZ hx,tA _ hx];by_cases h7:last<x
    ·have h2: ¬x<2147483648:=by omega
     simp[h2]
    ·simp[h7]
   ·refine ak G G (ab G G (ak G G (eP G G G (aM G G G (ab G G ?_)))));refine aW (g:=18) G (λHt=>?_) (λHt=>?_)
    ·refine ao G G G G (ao G G G G (ao G G G G (cj G G G (cj G G G (cj G G G (cj G G G (cj G G G (cj G G G (cj G G G (ao G G G G (bm G G G ?_)))))))))));refine ad (kT G (T.aQ (Rg.bA G G (aT ?_))));refine aX G G ⟨congrArg Value.bool (dw ?_),G⟩;rw[hr,fZ hx,tA _ hx];by_cases h7:last<x
     ·have h2: ¬x<2147483648:=by omega
      simp[h2]
     ·simp[h7]
    ·refine ak G G (ab G G (ak G G (iX G G G (ak G G (ab G G ?_)))));refine aW (g:=21) G (λaor=>?_) (λaor=>?_)
     ·refine ak G G (ab G G (ak G G (ab G G (ak G G (ab G G (ak G G (fQ G G G k3 (ak G G ?_))))))));refine bX ah I3 G G G hv bY k3 (λagp RP J9 aa1=>?_);obtain rfl:last=RP:=dw (ar (J9.symm.trans (by rw[show((k:Int)-1).toNat=k-1 from by omega];exact h1 k3)));refine ak G G ?_;refine bV (M:=M) aq G G W4 (by repeat (first|exact bH _ _|refine aZ (bI W4) ?_)) (λaos=>?_);refine ak G G (iG G G G (ak G G (bm G G G (aM G G G (ad ?_)))));refine bM G (λc4=>?_) (λc4=>?_)
      ·refine T.aQ (Rg.bA G G (aT ?_));refine aX G G ⟨congrArg Value.bool (dw ?_),G⟩;rw[hr,fZ hx,tA _ hx];by_cases h7:last<x
       ·have h2: ¬x<2147483648:=by omega
        simp[h2]
       ·simp[h7]
      ·refine aR (aH (bG G G G k3 (ab G G (ad ?_))));refine⟨G,(k+1,x),Y7,?_,?_⟩
       ·refine⟨rfl,by simp only;omega,?_,by simp only;omega,λh=>by simp at h,λ_=>by simpa using hx⟩;rw[hr,fZ hx,tA _ hx,decide_eq_true (show last<x by omega),decide_eq_true (show x<2147483648 by omega),fK,fK]
       ·simp only;omega
     ·refine ao G G G G (ao G G G G (ao G G G G (ao G G G G (ao G G G G (ao G G G G (ao G G G G (ak G G (aM G G G (aM G G G (ad (jD G ?_)))))))))));refine aR (aH (bG G G G k3 (ab G G (ad ?_))));refine⟨G,(k+1,x),Y7,?_,?_⟩
      ·refine⟨rfl,by simp only;omega,?_,by simp only;omega,λh=>by simp at h,λ_=>by simpa using hx⟩;rw[hr,fZ hx,tA _ hx,decide_eq_true (show last<x by omega),decide_eq_true (show x<2147483648 by omega),fK,fK]
      ·simp only;omega
  ·refine cO (T.aQ (Rg.bA G G (aT ?_)));refine aX G G ⟨congrArg Value.bool (dw ?_),G⟩;rw[hr,fR k3];rfl
theorem N8 {M:aJ} {w0:World} {v:Value} {l:List Po} (hM:Lt M w0) (hv:((RT.po).sl).V M w0 l v):
  Spec Tryz.prog 193 #[v] w0 (λv' w'=>v'= .bool (ik (-1) l)/\Step M w0 M w' aA):=by
 have hlen:=dZ hv;refine bF (args:=[_]) (fn:=Tryz.f193) Tryz.func193 G (n:=36) Tryz.ntmps193 (T.aQ (Rg.bA G G (T.aQ (Rg.bA G G (aI (T.aQ ?_))))));refine ab G G ?_
 first|refine bK bu rfl W4 rfl ?_|refine fW bu rfl W4 rfl ?_
 refine ab G G (ad (aS ?_));refine dg (σ:=Nat×Int) (λs=>[(6,v),(7,.int .i64 l.length),(8,.int .i64 s.1),(3,.int .i64 s.2)]) (λs w=>Step M w0 M w aA/\s.1<=l.length/\ik (-1) l=ik s.2 (l.drop s.1)) (λs=>l.length-s.1) (0,-1) Y7 ?_ ?_
 ·exact⟨bz,bC _,G⟩
 ·rintro⟨k,last⟩ w1 ⟨S,hk,hr⟩;dsimp only at hk hr ⊢;have hMw:=S.lt hM;refine T.aQ (ch G G G (ad (aI ?_)));refine bM G (λc3=>?_) (λc3=>?_)
  ·refine aR (aI (aS (T.aQ ?_)));obtain⟨⟨d,ps⟩,hx⟩:∃x,l[k]? =some x:=⟨_,al k3⟩;refine bX bu ng G G G (hv.le S.le) bY k3 (λVg aot agq DC=>?_);obtain rfl:aot=(d,ps):=ar (agq.symm.trans a65);refine cW (M:=M) (A:=RT.po) bW G ng q0 G G G W4 (by repeat (first|exact bH _ _|refine aZ (bI W4) ?_)) (λZ4 Qw=>?_);refine vS (A:=RT.po) (M:=M) ng G G G G G W4 (by repeat (first|exact bH _ _|refine aZ (bI W4) ?_)) a74 (λJo U6 k5 oH an1=>?_);refine ad (aI (T.aQ ?_));refine aD (M:=M) (A:=RT.po) (B:=RT.int .i64) bW G G I3 q0 (Nv) G G q0 W4 (by repeat (first|exact bH _ _|refine aZ (bI W4) ?_)) (λafY L7=>?_);refine bV aq G G L7 bY (λX8=>?_);refine bc (v':= .int .i64 d) G ?_;simp only at X8;refine ab G G (iG G G G (ab G G ?_));refine aW (g:=16) G (λaa2=>?_) (λaa2=>?_)
   ·refine ao G G G G (ao G G G G (ao G G G G (bm G G G (ab G G (ao G G G G (ao G G G G (ao G G G G (ao G G G G (bm G G G (ab G G (ao G G G G ?_)))))))))));refine ao G G G G (ao G G G G (ao G G G G (bm G G G (ad (kT G (T.aQ (Rg.bA G G (aT ?_))))))));refine aX G G ⟨congrArg Value.bool (dw ?_),S.aw oH⟩;rw[hr,oD hx]
    first
    |(rw[decide_eq_false (show¬last<d by omega)];simp;done)
    |(rw[decide_eq_false (show¬d<2147483648 by omega)];simp;done)
    |(rw[show ps=[]from dL.1 k3];simp;done)
    |(simp[c5];done)
   ·refine ak G G ?_;refine aD (M:=M) (A:=RT.po) (B:=RT.int .i64) bW G G I3 q0 (Nv) G G q0 W4 (by repeat (first|exact bH _ _|refine aZ (bI W4) ?_)) (λaAr agr=>?_);refine ak G G ?_;refine bV aq G G agr bY (λavi=>?_);refine bc (v':= .int .i64 d) G (ak G G (eP G G G (aM G G G (ab G G ?_))));refine aW (g:=21) G (λaa3=>?_) (λaa3=>?_)
    ·refine ao G G G G (ao G G G G (ao G G G G (ao G G G G (bm G G G (ab G G (ao G G G G (ao G G G G (ao G G G G (ao G G G G (bm G G G (ad ?_)))))))))));refine kT G (T.aQ (Rg.bA G G (aT ?_)));refine aX G G ⟨congrArg Value.bool (dw ?_),S.aw oH⟩;rw[hr,oD hx]
     first
     |(rw[decide_eq_false (show¬last<d by omega)];simp;done)
     |(rw[decide_eq_false (show¬d<2147483648 by omega)];simp;done)
     |(rw[show ps=[]from dL.1 k3];simp;done)
     |(simp[c5];done)
    ·refine ak G G ?_;refine aD (M:=M) (A:=RT.po) (B:=(RT.int .i64).sl) bW G G iJ q0 (Xm) G G q0 W4 (by repeat (first|exact bH _ _|refine aZ (bI W4) ?_)) (λavj aou=>?_);refine ak G G ?_;refine bE (M:=M) ah G G G G G W4 (by repeat (first|exact bH _ _|refine aZ (bI W4) ?_)) (λavk aa4=>?_);refine ak G G (bK ah G aa4 G (bc (v':= .int .i64 ps.length) G (ak G G (sJ G G G (aM G G G (ab G G ?_))))));refine aW (g:=27) G (λX9=>?_) (λX9=>?_)
     ·refine ao G G G G (ao G G G G (ao G G G G (ao G G G G (bm G G G (ad (kT G (T.aQ (Rg.bA G G (aT ?_)))))))));refine aX G G ⟨congrArg Value.bool (dw ?_),S.aw oH⟩;rw[hr,oD hx]
      first
      |(rw[decide_eq_false (show¬last<d by omega)];simp;done)
      |(rw[decide_eq_false (show¬d<2147483648 by omega)];simp;done)
      |(rw[show ps=[]from dL.1 k3];simp;done)
      |(simp[c5];done)
     ·refine ak G G ?_;refine aD (M:=M) (A:=RT.po) (B:=(RT.int .i64).sl) bW G G iJ q0 (Xm) G G q0 W4 (by repeat (first|exact bH _ _|refine aZ (bI W4) ?_)) (λavl aov=>?_);refine ak G G ?_;refine bE (M:=M) ah G G G G G W4 (by repeat (first|exact bH _ _|refine aZ (bI W4) ?_)) (λavm aa5=>?_);refine ak G G ?_;refine a8 G G al5 (Hs aa5) (λr5 w5 h5=>?_);obtain⟨rfl,rfl⟩:=h5;refine ak G G (kU G G (bc (v':= .bool (decide (¬rf ps=true))) (by simp) (aM G G G (ad ?_))));refine bM G (λc5=>?_) (λc5=>?_)
      ·refine T.aQ (Rg.bA G G (aT ?_));refine aX G G ⟨congrArg Value.bool (dw ?_),S.aw oH⟩;rw[hr,oD hx]
       first
       |(rw[decide_eq_false (show¬last<d by omega)];simp;done)
       |(rw[decide_eq_false (show¬d<2147483648 by omega)];simp;done)
       |(rw[show ps=[]from dL.1 k3];simp;done)
       |(simp[c5];done)
      ·refine aR (aH ?_);refine aD (M:=M) (A:=RT.po) (B:=RT.int .i64) bW G G I3 q0 (Nv) G G q0 W4 (by repeat (first|exact bH _ _|refine aZ (bI W4) ?_)) (λafe LO=>?_);refine bV aq G G LO bY (λavn=>?_);refine bc (v':= .int .i64 d) G (Rg.bA G G (aH (bG G G G k3 (ab G G (ad ?_)))));refine⟨G,(k+1,d),Y7,?_,?_⟩
       ·refine ⟨S.aw oH,by simp only;omega,?_⟩
        have fG:ps.isEmpty=false:=by cases ps with
         |nil=>simp at X9
         |cons a t=>rfl
        rw[hr,oD hx,decide_eq_true (show last<d by omega),decide_eq_true (show d<2147483648 by omega),fG,dj.1 c5];rfl
       ·simp only;omega
  ·refine cO (T.aQ (Rg.bA G G (aT ?_)));refine aX G G ⟨congrArg Value.bool (dw ?_),S⟩;rw[hr,fR k3];rfl
theorem Ka {M:aJ} {w0:World} {v:Value} {l:List Po} (hM:Lt M w0) (hv:((RT.po).sl).V M w0 l v):
  Spec Tryz.prog 194 #[v,.int .i64 8] w0 (λv' w'=>∃bs bn,v'= .func (.func 250) [].toArray [.pointer (some ⟨bs,0,none⟩),.pointer (some ⟨bn,0,none⟩)].toArray/\w'.heap[bs]? =some (.cells #[v] 80 (0,0))/\w'.heap[bn]? =some (.cells #[.int .i64 8] 3 (0,0))/\w0.heap.size<=bs/\w0.heap.size<=bn/\Step M w0 M w' aA):=by
 refine bF (args:=[_,_]) (fn:=Tryz.f194) Tryz.func194 G (n:=9) Tryz.ntmps194 (T.aQ ?_);refine zO M G G (λbs w1 h1 UR hS s1=>?_);rw[jo hv]at hS;refine zO (ins M bs) G G (λbn w2 h2 An hN s2=>?_);have hS2:=s2.aP hS;have hz1:=s1.size;refine Rg.bA G G (aI (T.aQ (aV aq G G G hN G (ch G G G (ad (T.zQ G (q0) (aR (T.aQ ?_))))))));refine l2 (xs:=[]) (ys:=[.tmp 2,.tmp 3]) G G G (Rg.bA G G (aT ?_));exact aX G G ⟨bs,bn,G,hS2,hN,h1,by omega,(s1.aw s2).back⟩
theorem Hu {w0:World} {bs bn yl:Nat} {v:Value} {l:List Po} {M:aJ} {wv:World} {J:Nat->World->Prop} {Jx:World->Prop} (hv:((RT.po).sl).V M wv l v) (mi:∀i w w',J i w->Step aA w aA w' aA->J i w') (L9:∀i w,J i w->w.heap[bs]? =some (.cells #[v] 80 (0,0))/\w.heap[bn]? =some (.cells #[.int .i64 8] 3 (0,0))) (hy:∀(i:Nat) (w:World) (u:Value),J i w->i<l.length->((RT.po).sl).V M wv ((l.drop i).take 8) u->zn Tryz.prog yl [u].toArray w (λr w'=>∃b,r= .bool b/\(b=true->J (min (i+8) l.length) w')/\(b=false->Jx w'))) (h0:J 0 w0):
  Spec Tryz.prog 250 #[.func (.yield yl) #[] #[],.pointer (some ⟨bs,0,none⟩),.pointer (some ⟨bn,0,none⟩)] w0 (λ_ w'=>J l.length w'∨Jx w'):=by
 have hlen:=dZ hv;refine bF (args:=[_,_,_]) (fn:=Tryz.f250) Tryz.func250 G (n:=31) Tryz.ntmps250 (T.aQ (Rg.bA G G (aS ?_)));refine dg (σ:=Nat) (λs=>[(0,.func (.yield yl) #[] #[]),(1,.pointer (some ⟨bs,0,none⟩)),(2,.pointer (some ⟨bn,0,none⟩)),(4,.int .i64 s)]) (λs w=>J (min s l.length) w/\s<=l.length+8) (λs=>l.length+8-s) 0 Y7 ?_ ?_
 ·exact⟨by rw[Nat.zero_min];exact h0,bC _⟩
 ·rintro k w1 ⟨hJ,hk⟩;obtain⟨Ey,Lu⟩:=L9 _ _ hJ;refine aI (T.aQ (ab G G (aV bu G G G Ey G ?_)))
  first|refine bK bu rfl W4 rfl ?_|refine fW bu rfl W4 rfl ?_
  refine ch G G G (ad ?_);refine bM G (λc1=>?_) (λc1=>?_)
  ·refine aR (aI (aS (aI ?_)));apply T.draw (M:=aA) mixed [cM.eq _,cM.eq _,cM.eq _,cM.pure (λv=>((RT.po).sl).V M wv (l.drop k) v),cM.eq _,cM.eq _,cM.eq _]
   ·rfl
   ·refine aF ?_ ?_
    ·intro wD E sD;refine aV aq G G G (dE sD Lu) G ?_;exact a01
    refine aF ?_ ?_
    ·intro wD E sD;refine aV bu G G G (dE sD Ey) G ?_;exact a01
    refine aF ?_ ?_
    ·intro wD E sD;refine ab G G ?_;exact a01
    refine aF ?_ ?_
    ·intro wD E sD;refine aC (aC ?_);refine Rg.uC (A:=RT.po) (hn:=by decide) bu ng G G G hv k3 (λu hu=>?_);rw[an]at hu;exact ad ⟨G,G,_,G,hu,bz⟩
    refine aF ?_ ?_
    ·intro wD E sD;intro v3 yE;have aow:((RT.po).sl).V M wv (l.drop k) v3:=yE;refine bK bu G aow G ?_;exact a01
    refine aF ?_ ?_
    ·intro wD E sD;refine aC (aC (Rg.min2 G G G ?_));exact a01
    refine aF ?_ ?_
    ·intro wD E sD;refine aC (aC (aC (aC ?_)));intro v3 yE;refine aC (aC (aB G G ?_));exact a01
    exact yh
   ·intro wD3 rX;refine aC (aC (aC ?_));intro aol agk;refine aC (aC (aC ?_));rw[show min k l.length=k from by omega]at hJ;have hJ3:=mi _ _ _ hJ rX;obtain⟨hb3,uW⟩:=L9 _ _ hJ3;refine T.aQ (ab G G (aV bu G G G hb3 G (ab G G (ab G G (ab G G (bG G G G k3 (ab G G (ab G G (bG G G G k3 ?_)))))))));refine Rg.Nr (A:=RT.po) (hn:=by decide) bu ng rfl rfl rfl rfl rfl hv (by rw[dS];omega) (λu hu=>?_)
    have he:(l.take ((k:Int)+min 8 ((l.drop k).length:Int)).toNat).drop (k:Int).toNat=(l.drop k).take 8:=by
     rw[an,List.drop_take,dS,show((k:Int)+min 8 ((l.length-k:Nat):Int)).toNat-k=min 8 (l.length-k)from by omega,List.take_eq_take_iff,dS];omega
    rw[he]at hu;refine Rg.yield G (vs:=[u]) G G (hy k _ u hJ3 k3 hu) (λr4 w4 h4=>?_);obtain⟨b,rfl,Xr,tS⟩:=h4;refine kU G G (bc (v':= .bool (decide (¬b=true))) (by simp) (ad ?_));refine bM G (λc4=>?_) (λc4=>?_)
    ·refine aT ?_;exact FX G (.inr (tS (by simpa using c4)))
    ·refine aR (aH (ab G G ?_));have hJ5:=Xr (dj.1 c4);refine aV aq G G G (L9 _ _ hJ5).2 G (bG G G G k3 (Rg.bA G G ?_));refine⟨G,k+8,Y7,?_,?_⟩
     ·exact⟨hJ5,by omega⟩
     ·show l.length+8-(k+8)<l.length+8-k;omega
  ·refine cO ?_;rw[show min k l.length=l.length from by omega]at hJ;change yj Tryz.prog Tryz.f250 (λ_ w'=>J l.length w'∨Jx w') .normal _ [] _;exact iw G (.inl hJ)
structure pM (M:aJ) (w0:World) (v:Value) (bo bx bl D bs bn:Nat) (st:Obj) (vb vk:Value) (uT last:Int) (b:List UInt8) (ks:List Bl) (M1:aJ) (w:World):Prop where
 lt:Lt M1 w
 S:Step M w0 M1 w aA
 mo:M1 bo
 mx:M1 bx
 ml:M1 bl
 md:M1 D
 mr:M1 (D+1)
 o:w.heap[bo]? =some (.cells #[.pointer (some ⟨bx,0,none⟩)] 142 (0,0))
 x:w.heap[bx]? =some (.cells #[vb,vk,.int .i64 uT] 207 (0,0))
 l:w.heap[bl]? =some (.cells #[.int .i64 last] 3 (0,0))
 d:w.heap[D]? =some (.deferred (some []))
 r:w.heap[D+1]? =some st
 s:w.heap[bs]? =some (.cells #[v] 80 (0,0))
 n:w.heap[bn]? =some (.cells #[.int .i64 8] 3 (0,0))
 ne:bo≠bx/\bo≠bl/\bx≠bl/\bo<D/\bx<D/\bl<D/\bs<D/\bn<D/\bs≠bo/\bs≠bx/\bs≠bl/\bn≠bo/\bn≠bx/\bn≠bl/\w0.heap.size<=bo/\w0.heap.size<=bx/\w0.heap.size<=bl/\w0.heap.size<=D
 hb:(RT.u8.sl).V M1 w b vb
 hk:Own RT.bl 209 M1 w (D+2) vk ks
section
variable {M M1 M2:aJ} {w0 w w':World} {v vb vk:Value} {bo bx bl D bs bn:Nat} {st:Obj} {uT last:Int} {b:List UInt8} {ks:List Bl}
theorem pM.step (h:pM M w0 v bo bx bl D bs bn st vb vk uT last b ks M1 w) (s:Step M1 w M2 w' aA):pM M w0 v bo bx bl D bs bn st vb vk uT last b ks M2 w':=
 ⟨s.lt h.lt,h.S.aw s,(s.mem _ (h.lt _ h.mo)).2 h.mo,(s.mem _ (h.lt _ h.mx)).2 h.mx,(s.mem _ (h.lt _ h.ml)).2 h.ml,(s.mem _ (h.lt _ h.md)).2 h.md,(s.mem _ (h.lt _ h.mr)).2 h.mr,
  s.aP h.o,s.aP h.x,s.aP h.l,s.aP h.d,s.aP h.r,s.aP h.s,s.aP h.n,h.ne,h.hb.le s.le,h.hk.aE s⟩
theorem pM.VR {n:Int} (h:pM M w0 v bo bx bl D bs bn st vb vk uT last b ks M1 w) (s:Step M1 w M1 w' (λk=>k=bl)) (hl:w'.heap[bl]? =some (.cells #[.int .i64 n] 3 (0,0))):pM M w0 v bo bx bl D bs bn st vb vk uT n b ks M1 w':=by
 obtain⟨e1,e2,e3,e4,e5,e6,e7,e8,e9,e10,e11,e12,e13,e14,e15,e16,Ya,e18⟩:=h.ne
 exact⟨s.lt h.lt,h.S.cL s (λk hk=>by subst hk;exact Ya),h.mo,h.mx,h.ml,h.md,h.mr,s.keep h.o e2,s.keep h.x e3,hl,s.keep h.d k3,s.keep h.r k3,s.keep h.s e11,s.keep h.n e14,h.ne,h.hb.le s.le,
  h.hk.step s (λk hk hh=>by have:=(h.hk.base k hk).1;omega)⟩
theorem pM.aa6 {vb' vk':Value} {agu:Int} {b':List UInt8} {ks':List Bl} (h:pM M w0 v bo bx bl D bs bn st vb vk uT last b ks M1 w) (s:Step M1 w M1 w' (λk=>k=bx)) (hx:w'.heap[bx]? =some (.cells #[vb',vk',.int .i64 agu] 207 (0,0)))
  (hb:(RT.u8.sl).V M1 w' b' vb') (hk:Own RT.bl 209 M1 w (D+2) vk' ks'):pM M w0 v bo bx bl D bs bn st vb' vk' agu last b' ks' M1 w':=by
 obtain⟨e1,e2,e3,e4,e5,e6,e7,e8,e9,e10,e11,e12,e13,e14,e15,e16,Ya,e18⟩:=h.ne
 exact⟨s.lt h.lt,h.S.cL s (λk hk=>by subst hk;exact e16),h.mo,h.mx,h.ml,h.md,h.mr,s.keep h.o e1,hx,s.keep h.l (Ne.symm e3),s.keep h.d k3,s.keep h.r k3,s.keep h.s e10,s.keep h.n e13,h.ne,hb,
  hk.step s (λk xf hh=>by have:=(hk.base k xf).1;omega)⟩
theorem pM.oP {st':Obj} (h:pM M w0 v bo bx bl D bs bn st vb vk uT last b ks M1 w) (mi:w.heap[D+1]? =some st):pM M w0 v bo bx bl D bs bn st' vb vk uT last b ks M1 (w.putObj (D+1) st'):=by
 have s:Step M1 w M1 (w.putObj (D+1) st') (λk=>k=D+1):=eO h.mr;obtain⟨e1,e2,e3,e4,e5,e6,e7,e8,e9,e10,e11,e12,e13,e14,e15,e16,Ya,e18⟩:=h.ne
 exact⟨s.lt h.lt,h.S.cL s (λk hk=>by subst hk;omega),h.mo,h.mx,h.ml,h.md,h.mr,s.keep h.o k3,s.keep h.x k3,s.keep h.l k3,s.keep h.d k3,zP (ae mi),s.keep h.s k3,s.keep h.n k3,h.ne,h.hb.le s.le,
  h.hk.step s (λk xf hh=>by have:=(h.hk.base k xf).1;omega)⟩
theorem pM.other {q:Nat} (h:pM M w0 v bo bx bl D bs bn st vb vk uT last b ks M1 w) (s:Step M1 w M1 w' (λk=>k=q)) (hq:D+1<q) (hqv:∀k,vk.ownBlock=some k->k≠q):pM M w0 v bo bx bl D bs bn st vb vk uT last b ks M1 w':=by
 obtain⟨e1,e2,e3,e4,e5,e6,e7,e8,e9,e10,e11,e12,e13,e14,e15,e16,Ya,e18⟩:=h.ne
 exact⟨s.lt h.lt,h.S.cL s (λk hk=>by subst hk;omega),h.mo,h.mx,h.ml,h.md,h.mr,s.keep h.o k3,s.keep h.x k3,s.keep h.l k3,s.keep h.d k3,s.keep h.r k3,s.keep h.s k3,s.keep h.n k3,h.ne,h.hb.le s.le,
  h.hk.step s (λk xf hh=>hqv k xf hh)⟩
theorem pM.grow {vk':Value} {ks':List Bl} (h:pM M w0 v bo bx bl D bs bn st vb vk uT last b ks M1 w) (s:Step M1 w M2 w' (λk=>vk.ownBlock=some k)) (hk:Own RT.bl 209 M2 w' (D+2) vk' ks'):
  (w'.heap[bx]? =some (.cells #[vb,vk,.int .i64 uT] 207 (0,0))/\M2 bx/\Lt M2 w')/\∀{w2:World},Step M2 w' M2 w2 (λk=>k=bx)->w2.heap[bx]? =some (.cells #[vb,vk',.int .i64 uT] 207 (0,0))->pM M w0 v bo bx bl D bs bn st vb vk' uT last b ks' M2 w2:=by
 obtain⟨e1,e2,e3,e4,e5,e6,e7,e8,e9,e10,e11,e12,e13,e14,e15,e16,Ya,e18⟩:=h.ne;have hn:∀k,vk.ownBlock=some k->D+2<=k:=λk hk=>(h.hk.base k hk).1
 have fO:=λ{k:Nat} (hm:M1 k)=>(s.mem k (h.lt k hm)).2 hm
 refine ⟨⟨s.keep h.x (λhh=>by have:=hn _ hh;omega),fO h.mx,s.lt h.lt⟩,λ{w2} s2 hx=> ?_⟩;have S':=h.S.cL s (λk hk=>by have:=hn k hk;omega)
 exact⟨s2.lt (s.lt h.lt),S'.cL s2 (λk hk=>by subst hk;exact e16),fO h.mo,fO h.mx,fO h.ml,fO h.md,fO h.mr,s2.keep (s.keep h.o (λhh=>by have:=hn _ hh;omega)) e1,hx,s2.keep (s.keep h.l (λhh=>by have:=hn _ hh;omega)) (Ne.symm e3),
  s2.keep (s.keep h.d (λhh=>by have:=hn _ hh;omega)) k3,s2.keep (s.keep h.r (λhh=>by have:=hn _ hh;omega)) k3,s2.keep (s.keep h.s (λhh=>by have:=hn _ hh;omega)) e10,s2.keep (s.keep h.n (λhh=>by have:=hn _ hh;omega)) e13,h.ne,(h.hb.le s.le).le s2.le,
  hk.step s2 (λk xf hh=>by have:=(hk.base k xf).1;omega)⟩
end
def RQ (M:aJ) (w0:World) (l:List Po) (v:Value) (bo bx bl D bs bn:Nat) (st:Obj) (i:Nat) (w:World):Prop:=
 ∃(M1:aJ) (vb vk:Value),pM M w0 v bo bx bl D bs bn st vb vk (kG (l.take i)) (eg (-1) (l.take i)) (eY (-1) (l.take i)) (uR l ((i+7)/8)) M1 w/\(i%8=0\/i=l.length)/\i<=l.length
theorem aa8 {M:aJ} {w0 w2 w3 w5 w6 w7:World} {v:Value} {l:List Po} {bo bx bl bs bn:Nat} {st:Obj} (S6:Step M w0 (ins (ins (ins M bx) bo) bl) w6 aA) (s7:Step (ins (ins (ins M bx) bo) bl) w6 (ins (ins (ins M bx) bo) bl) w7 aA) (hM:Lt M w0)
  (e1:bo<w6.heap.size) (e2:bx<w6.heap.size) (e3:bl<w6.heap.size) (n1:bo≠bx) (n2:bo≠bl) (n3:bx≠bl)
  (hO:w6.heap[bo]? =some (.cells #[.pointer (some ⟨bx,0,none⟩)] 142 (0,0))) (hX:w6.heap[bx]? =some (.cells #[.slice none 0 0,.slice none 0 0,.int .i64 0] 207 (0,0))) (hL:w6.heap[bl]? =some (.cells #[.int .i64 (-1)] 3 (0,0)))
  (hS:w7.heap[bs]? =some (.cells #[v] 80 (0,0))) (hN:w7.heap[bn]? =some (.cells #[.int .i64 8] 3 (0,0))) (hbs:w6.heap.size<=bs) (hbn:w6.heap.size<=bn)
  (g1:w0.heap.size<=bo) (g2:w0.heap.size<=bx) (g3:w0.heap.size<=bl):
  RQ M w0 l v bo bx bl w7.heap.size bs bn st 0 ((w7.alloc (.deferred (some []))).alloc st):=by
 have sA:Step (ins (ins (ins M bx) bo) bl) w7 (ins (ins (ins (ins M bx) bo) bl) w7.heap.size) (w7.alloc (.deferred (some []))) aA:=(dK _ w7 _).own (aN _) (by simp);have sB:Step (ins (ins (ins (ins M bx) bo) bl) w7.heap.size) (w7.alloc (.deferred (some []))) (ins (ins (ins (ins (ins M bx) bo) bl) w7.heap.size) (w7.heap.size+1)) ((w7.alloc (.deferred (some []))).alloc st) aA:=(dK _ _ _).own (by simp) (by simp);have z7:=s7.size;have hs7:=ae hS;have hn7:=ae hN;have S:=((S6.aw s7).aw sA).aw sB;have hD:(w7.alloc (.deferred (some []))).heap[w7.heap.size]? =some (.deferred (some [])):=de w7 _;have hR:((w7.alloc (.deferred (some []))).alloc st).heap[w7.heap.size+1]? =some st:=by have:=de (w7.alloc (.deferred (some []))) st;rwa [CD]at this
 have z0:=S6.size;refine⟨_,.slice none 0 0,.slice none 0 0,⟨S.lt hM,S,?_,?_,?_,?_,.inl rfl,sB.aP (sA.aP (s7.aP hO)),sB.aP (sA.aP (s7.aP hX)),sB.aP (sA.aP (s7.aP hL)),sB.aP hD,hR,sB.aP (sA.aP hS),sB.aP (sA.aP hN),by omega,mX,dh _ _ _ _ _⟩,.inl rfl,bC _⟩
 ·exact .inr (.inr (.inr (.inl G)))
 ·exact .inr (.inr (.inr (.inr (.inl G))))
 ·exact .inr (.inr (.inl G))
 ·exact .inr (.inl G)
set_option maxHeartbeats 4000000 in
theorem DT {M:aJ} {w0:World} {v:Value} {l:List Po} (hM:Lt M w0) (hv:((RT.po).sl).V M w0 l v) (l4:∀p∈l,p.2.length<=1099511627776) (mn:(eY (-1) l).length<=35184372088832) (F3:l.length<=1099511627776) (VS:kG l<=4611686018427387904):
  Spec Tryz.prog 145 #[v] w0 (λv' w'=>Step M w0 M w' aA/\(ik (-1) l=true->∃p,v'= .tuple #[p,.int .i64 0]/\dv RT.li M w' p (pJ l))/\(ik (-1) l=false->v'= .tuple #[.pointer none,.int .i64 1])):=by
 have hlen:=dZ hv;refine qf (args:=[_]) (fn:=Tryz.f145) Tryz.func145 G (n:=85) Tryz.ntmps145 (T.aQ (aB G G (Rg.bA G G (aI (T.aQ (ab G G ?_))))));refine a8 G G alV (N8 hM hv) (λr w1 h1=>?_);obtain⟨rfl,s1⟩:=h1;refine kU G G (bc (v':= .bool (decide (¬ik (-1) l=true))) (by simp) (ad ?_));refine bM G (λc1=>?_) (λc1=>?_)
 ·refine T.aQ (aB G G (Rg.bA G G (aT ?_)));exact UQ G G G ⟨s1,λh=>absurd h c1,λ_=>G⟩
 ·have pg:=dj.1 c1;refine aR (T.aQ (ie (places:=[(0,1),(1,1),(2,1)]) fu alB alD G G (out:=[.slice none 0 0,.slice none 0 0,.int .i64 0]) G ?_));refine zO M G G (λbx w2 L9 aAu hX s2=>?_);change w2.heap[bx]? =some (.cells #[.slice none 0 0,.slice none 0 0,.int .i64 0] 207 (0,0))at hX;refine eA (ins M bx) CO G (λbo w3 Kb agw hO s3=>?_);refine cF (M:=ins (ins M bx) bo) CO G G hO G G (.inl G) (λw4 hO4 s4=>?_);refine ad (T.aQ ?_);refine eA (ins (ins M bx) bo) I3 G (λbl w5 aAw avq hL s5=>?_);refine cF (M:=ins (ins (ins M bx) bo) bl) I3 G G hL G G (.inl G) (λw6 hL6 s6=>?_);have z1:=s1.size;have z2:=s2.size;have z3:=s3.size;have z4:=s4.size;have z5:=s5.size;have z6:=s6.size;have S6:Step M w0 (ins (ins (ins M bx) bo) bl) w6 aA:=((((s1.aw s2).aw s3).cL s4 (λk hk=>by subst hk;omega)).aw s5).cL s6 (λk hk=>by subst hk;omega);have hO6:=s6.keep (s5.aP hO4) (show bo≠bl by omega);have hX6:=s6.keep (s5.aP (s4.keep (s3.aP hX) (show bx≠bo by omega))) (show bx≠bl by omega);refine ad (aI (T.aQ (ab G G ?_)));refine a8 G G alW (Ka (M:=ins (ins (ins M bx) bo) bl) (S6.lt hM) (hv.le S6.le)) (λr w7 h7=>?_);obtain⟨bs,bn,rfl,hS7,hN7,hbs,hbn,s7⟩:=h7;have z7:=s7.size;have aAA:=ae hS7;have aAB:=ae hN7;refine ad (aS ?_);refine T.range (gf:=250) (lb:=[.pointer (some ⟨bs,0,none⟩),.pointer (some ⟨bn,0,none⟩)].toArray) G al6 (λrec pI=>?_);obtain⟨D,hD⟩:∃D,D=w7.heap.size:=⟨_,rfl⟩;rw[<-hD]at pI ⊢
  have h0:RQ M w0 l v bo bx bl D bs bn (.loop (rec .ready none)) 0 ((w7.alloc (.deferred (some []))).alloc (.loop (rec .ready none))):=by
   rw[hD]at pI ⊢;exact aa8 (w2:=w7) (w3:=w7) (w5:=w7) S6 s7 hM k3 k3 k3 k3 k3 k3 hO6 hX6 hL6 hS7 hN7 hbs hbn k3 k3 k3
  refine Spec.mono (Hu (M:=M) (wv:=w0) (J:=RQ M w0 l v bo bx bl D bs bn (.loop (rec .ready none))) (Jx:=λ_=>False) hv (λi w w' ⟨M1,vb,vk,h,h2⟩ s=>⟨M1,vb,vk,h.step (s.any M1),h2⟩) (λi w ⟨M1,vb,vk,h,h2⟩=>⟨h.s,h.n⟩) (λi wr u hJ hi hu=>?_) h0) (λ_ w3 h3=>?_)
  ·obtain⟨M1,vb,vk,h,hi8,pX⟩:=hJ;refine nW (ps:=[17]) (vs:=[u]) pI h.r G q0 (aH (Rg.bA G G (⟨G,h.r,?_⟩)));have h1:=h.oP (st':= .loop (rec .busy none)) h.r;generalize wr.putObj (D+1) _=wB at h1 ⊢;have hO:=h1.o;have hX:=h1.x;have hL:=h1.l;have hB:=h1.hb;have eK:=h1.lt;have yp:((l.drop i).take 8).length<=8:=by rw[aU];omega
   have aAC:((l.drop i).take 8).length=min 8 (l.length-i):=by rw[aU,dS]
   obtain⟨q1,q2,q3,q4,q5,q6,q7,q8,q9,q10,q11,q12,q13,q14,q15,q16,q17,q18⟩:=h1.ne;refine aS (aI ?_);apply T.Ly (M:=M1) (n:=85) _ mixed [] [cM.eq _,cM.eq _,cM.eq _,cM.eq _,cM.eq _,cM.eq _,cM.eq _,cM.eq _,cM.eq _,cM.mk' (λp w'=>∃bq,p= .pointer (some ⟨bq,0,none⟩)/\wB.heap.size<=bq/\w'.heap[bq]? =some (.cells #[.int .i64 0,.int .i64 0,.int .i64 0,.int .i64 0] 209 (0,0))) (fun⟨bq,h1,h2,h3⟩ s=>⟨bq,h1,h2,s.aP h3⟩)]
   ·rfl
   ·rfl
   ·rfl
   ·rfl
   ·exact aj3
   ·exact yn.none
   ·refine aO ?_ ?_
    ·intro wD E sD;refine aV fY G G G (dE sD W4) G ?_;exact a01
    refine aO ?_ ?_
    ·intro wD E sD;refine aC (cu G ⟨_,G⟩ G ?_);exact a01
    refine aO ?_ ?_
    ·intro wD E sD;refine aC (bR fu G G Gl q0 G G ?_);exact a01
    refine aO ?_ ?_
    ·intro wD E sD;refine aC (aV cf G G G (dE sD W4) G ?_);exact a01
    refine aO ?_ ?_
    ·intro wD E sD;refine aC ?_
     first|refine bK cf rfl W4 rfl ?_|refine fW cf rfl W4 rfl ?_
     exact a01
    refine aO ?_ ?_
    ·intro wD E sD;refine aV aq G G G (dE sD W4) G ?_;exact a01
    refine aO ?_ ?_
    ·intro wD E sD;refine ab G G ?_;exact a01
    refine aO ?_ ?_
    ·intro wD E sD;refine aC ?_
     first|refine bK bu rfl W4 rfl ?_|refine fW bu rfl W4 rfl ?_
     exact a01
    refine aO ?_ ?_
    ·intro wD E sD;refine aC (aC (aC (ie (places:=[(0,1),(1,1),(2,1),(3,1)]) vU Ew alE rfl ⟨_,_,rfl,rfl,_,_,rfl,rfl,_,_,rfl,rfl,rfl⟩ (out:=[.int .i64 (eY (-1) (l.take i)).length,.int .i64 (eg (-1) (l.take i)),.int .i64 0,.int .i64 ((l.drop i).take 8).length]) ⟨0,[_],rfl,rfl,by simp[Value.cells],1,[_],rfl,rfl,by simp[Value.cells],3,[_],rfl,rfl,by simp[Value.cells],rfl⟩ ?_)));exact a01
    refine aO ?_ ?_
    ·intro wD E sD;refine eA M1 Ew G (λbq wq e1 e2 e3 s=>?_);exact ad ⟨G,G,_,G,⟨bq,G,eG sD.size e1,e3⟩,s.back⟩
    exact vV
   ·intro wD7 sD7;refine aC (aC (aC (aC (aC (aC (aC (aC (aC ?_))))))));intro aAM agx;obtain⟨bq,rfl,Zq,hq2⟩:=agx;have Xh:=ae hq2;have sQ:Step M1 wB (ins M1 bq) wD7 aA:=sD7.own Zq Xh;refine ej (M:=ins M1 bq) (vs:=[.int .i64 (eY (-1) (l.take i)).length,.int .i64 (eg (-1) (l.take i)),.int .i64 0,.int .i64 ((l.drop i).take 8).length]) Ew G G (by intro x hx;simp at hx;rcases hx with rfl|rfl|rfl|rfl<;>rfl) rfl rfl hq2 (.inl rfl) (λwQ hQ sQ2=>?_);refine ad ⟨G,?_⟩;have h2:=h1.step (sQ.cL sQ2 (λk hk=>by subst hk;exact Zq));have hqv:∀k,vk.ownBlock=some k->k≠bq:=λk hk=>by have:=(h1.hk.base k hk).2;omega
    have hDq:D+1<bq:=by have:=ae h1.r;omega
    have h3:pM M w0 v bo bx bl D bs bn (.loop (rec .busy none)) vb vk (kG (l.take (i+0))) (eg (-1) (l.take (i+0))) (eY (-1) (l.take (i+0))) (uR l ((i+7)/8)) (ins M1 bq) wQ:=h2;obtain⟨M2,IK⟩:∃M2,M2=ins M1 bq:=⟨_,rfl⟩;rw[<-IK]at h3;refine aI (T.aQ (ab G G ?_))
    first|refine bK bu rfl W4 rfl ?_|refine fW bu rfl W4 rfl ?_
    refine ab G G (ad (aS ?_));refine dg (σ:=Nat×Value) (λs=>[(4,.pointer (some ⟨bo,0,none⟩)),(5,.pointer (some ⟨bl,0,none⟩)),(6,u),(7,.pointer (some ⟨bq,0,none⟩)),(27,u),(28,.int .i64 ((l.drop i).take 8).length),(29,.int .i64 s.1)]) (λs w=>s.1<=((l.drop i).take 8).length/\w.heap[bq]? =some (.cells #[.int .i64 (eY (-1) (l.take i)).length,.int .i64 (eg (-1) (l.take i)),.int .i64 0,.int .i64 ((l.drop i).take 8).length] 209 (0,0))/\pM M w0 v bo bx bl D bs bn (.loop (rec .busy none)) s.2 vk (kG (l.take (i+s.1))) (eg (-1) (l.take (i+s.1))) (eY (-1) (l.take (i+s.1))) (uR l ((i+7)/8)) M2 w) (λs=>((l.drop i).take 8).length-s.1) (0,vb) a89 ?_ ?_
    ·exact⟨bC _,hQ,h3⟩
    ·rintro⟨j,vb⟩ wj ⟨hj,hQ,h4⟩;dsimp only at hj hQ h4 ⊢;have eK:=h4.lt;refine T.aQ (ch G G G (ad (aI ?_)));refine bM G (λc9=>?_) (λc9=>?_)
     ·refine aR (aI (aS (T.aQ ?_)));obtain⟨⟨d,ps⟩,hx⟩:∃x,l[i+j]? =some x:=⟨_,al k3⟩;obtain⟨f1,f2,f3,f4,f5,f6⟩:=Et pg hx;obtain⟨f7,f8⟩:=rh.1 f4;have fps:=l4 _ (au hx);have fb:=pK l (i+j);have ft:=Gh l (i+j);have ft2:=Gh l (i+j+1);rw[AY hx]at ft2;have ftk:=AX (-1) hx;have ftl:=pK l (i+j+1);simp only at fps;refine bX bu ng G G G (hu.le h4.S.le) bY k3 (λafc agy aa9 Z6=>?_);obtain rfl:(d,ps)=agy:=dw (ar (aa9.symm.trans (by rw[an,cY,if_pos k3,ti];exact hx)));refine cW (M:=M2) (A:=RT.po) bW G ng q0 G G G W4 (by repeat (first|exact bH _ _|refine aZ (bI W4) ?_)) (λafd Qy=>?_);refine vS (A:=RT.po) (M:=M2) ng G G G G G W4 (by repeat (first|exact bH _ _|refine aZ (bI W4) ?_)) a74 (λavv avw aba Yb avx=>?_);refine ad (aI ?_);have h5:=h4.step Yb;have hO:=h5.o;have hX:=h5.x;have hL:=h5.l;have hB:=h5.hb;have eK:=h5.lt;have hp0:=aba;apply T.Ly (M:=M2) (n:=85) _ mixed [] [cM.eq _,cM.eq _,cM.eq _,cM.eq _,cM.eq _,cM.ptr (RT.int .i64) d,cM.eq (.int .i64 d),cM.eq _,cM.eq _,cM.eq (.int .i64 (((d-eg (-1) (l.take (i+j))-1).toNat:Nat):Int)),cM.V (RT.u8.sl) (eY (-1) (l.take (i+j))++put (d-eg (-1) (l.take (i+j))-1).toNat),cM.eq _,cM.eq _]
      ·rfl
      ·rfl
      ·rfl
      ·rfl
      ·exact aj3
      ·exact yn.none
      ·refine aO ?_ ?_
       ·intro wD E sD;refine aV fY G G G (dE sD W4) G ?_;exact a01
       refine aO ?_ ?_
       ·intro wD E sD;refine aV fY G G G (dE sD W4) G ?_;exact a01
       refine aO ?_ ?_
       ·intro wD E sD;refine aC (cu G ⟨_,G⟩ G ?_);exact a01
       refine aO ?_ ?_
       ·intro wD E sD;refine aC (bR fu G G Gl q0 G G ?_);exact a01
       refine aO ?_ ?_
       ·intro wD E sD;refine aC (aV cf G G G (dE sD W4) G ?_);exact a01
       refine aO ?_ ?_
       ·intro wD E sD;refine aD (M:=M2) (A:=RT.po) (B:=RT.int .i64) bW G G I3 q0 (Nv) G G q0 W4 (by repeat (first|exact bH _ _|refine aZ (bI W4) ?_)) (λavz aoz=>?_);exact ad ⟨G,G,_,G,by assumption,bz⟩
       refine aO ?_ ?_
       ·intro wD E sD;intro v5 tg;refine bV (M:=M2) aq G G W4 (by repeat (first|exact bH _ _|refine aZ (bI W4) ?_)) (λaoA=>?_);exact a01
       refine aO ?_ ?_
       ·intro wD E sD;refine aV aq G G G (dE sD W4) G ?_;exact a01
       refine aO ?_ ?_
       ·intro wD E sD;refine aC (aC (fQ G G G k3 ?_));exact a01
       refine aO ?_ ?_
       ·intro wD E sD;refine aC (fQ G G G k3 (bc (v':= .int .i64 (((d-eg (-1) (l.take (i+j))-1).toNat:Nat):Int)) (by congr 1;omega) ?_));exact a01
       refine aO ?_ ?_
       ·intro wD E sD;refine aC (aC ?_);refine a8 G G ZF (RF (M:=M2) (sD.lt eK) (hB.le sD.le) k3 k3) (λrP wP hP=>?_);exact ad ⟨G,G,_,G,hP.2,hP.1⟩
       refine aO ?_ ?_
       ·intro wD E sD;refine aC (aC (aC (aC (aC (aC ?_)))));intro v5 tg;refine aC (aC (aC (aC ?_)));intro v10 RR;refine cu G ⟨_,G⟩ G ?_;exact a01
       refine aO ?_ ?_
       ·intro wD E sD;refine aC (aC (aC (aC (aC (aC ?_)))));intro v5 tg;refine aC (aC (aC (aC ?_)));intro v10 RR;refine bR fu G G Gl q0 G G ?_;exact a01
       exact vV
      ·intro EX gO;refine aC (aC (aC (aC (aC ?_))));intro avA aoB;refine aC (aC (aC (aC ?_)));intro aoC Mc;refine aC (aC ?_);have h6:=h5.step gO;have hp6:=hp0.le q0 gO.le;refine cF (M:=M2) Gl G G h6.x G (mv Mc G G) h6.mx (λw11 aoD BM=>?_);refine ad ⟨G,?_⟩;have h7:=h6.aa6 BM aoD (RT.V.le BM.le Mc) h6.hk;have hp7:=hp6.le q0 BM.le;refine aI ?_;have hO:=h7.o;have hX:=h7.x;have hB:=h7.hb;have eK:=h7.lt;have fbl:(eY (-1) (l.take (i+j))++put (d-eg (-1) (l.take (i+j))-1).toNat).length<=35184372088832:=by rw[ftk]at ftl;simp only[aY]at ftl ⊢;omega
       apply T.Xf (M:=M2) mixed [(13,λk=>k=bx)] [cM.eq _,cM.eq _,cM.eq _,cM.eq _,cM.eq _,cM.ptr ((RT.int .i64).sl) ps,cM.V ((RT.int .i64).sl) ps,⟨λt w=>∃x,t= .tuple #[x,.int .i64 0]/\(RT.u8.sl).V M2 w (eY (-1) (l.take (i+j))++put (d-eg (-1) (l.take (i+j))-1).toNat++fF ps) x,Nc,fun⟨x,h1,h2⟩ s _=>⟨x,h1,h2.le s.le⟩⟩,⟨λt w=>∃x,t= .tuple #[x,.int .i64 0]/\(RT.u8.sl).V M2 w (eY (-1) (l.take (i+j))++put (d-eg (-1) (l.take (i+j))-1).toNat++fF ps) x,Nc,fun⟨x,h1,h2⟩ s _=>⟨x,h1,h2.le s.le⟩⟩,cM.V (RT.u8.sl) (eY (-1) (l.take (i+j))++put (d-eg (-1) (l.take (i+j))-1).toNat++fF ps),cM.eq (.int .i64 0),cM.eq _,cM.eq _,⟨λ_ w=>∃x,w.heap[bx]? =some (.cells #[x,vk,.int .i64 (kG (l.take (i+j)))] 207 (0,0))/\(RT.u8.sl).V M2 w (eY (-1) (l.take (i+j))++put (d-eg (-1) (l.take (i+j))-1).toNat++fF ps) x,λk=>k≠bx,fun⟨x,h1,h2⟩ s hN=>⟨x,s.keep h1 (λhb=>hN _ hb rfl),h2.le s.le⟩⟩]
       ·rfl
       ·intro p hp b hb;simp only[b9]at hp;subst hp
        cases hb;exact h7.mx
       ·exact⟨λ_ _ _ _=>trivial,⟨λ_ _ _ _=>trivial,⟨λ_ _ _ _=>trivial,⟨λ_ _ _ _=>trivial,⟨λ_ _ _ _=>trivial,⟨λ_ _ _ _=>trivial,⟨λ_ _ _ _=>trivial,⟨λ_ _ _ _=>trivial,⟨λ_ _ _ _=>trivial,⟨λ_ _ _ _=>trivial,⟨λ_ _ _ _=>trivial,⟨λ_ _ _ _=>trivial,⟨λ_ _ _ _=>trivial,⟨λp hp=>by simp at hp,trivial⟩⟩⟩⟩⟩⟩⟩⟩⟩⟩⟩⟩⟩⟩
       ·refine aF ?_ ?_
        ·intro wD E sD;replace sD:Step M2 _ M2 wD aA:=sD;refine aV fY G G G (dE sD W4) G ?_;exact a01
        refine aF ?_ ?_
        ·intro wD E sD;replace sD:Step M2 _ M2 wD aA:=sD;refine aV fY G G G (dE sD W4) G ?_;exact a01
        refine aF ?_ ?_
        ·intro wD E sD;replace sD:Step M2 _ M2 wD aA:=sD;refine aC (cu G ⟨_,G⟩ G ?_);exact a01
        refine aF ?_ ?_
        ·intro wD E sD;replace sD:Step M2 _ M2 wD aA:=sD;refine aC (bR fu G G Gl q0 G G ?_);exact a01
        refine aF ?_ ?_
        ·intro wD E sD;replace sD:Step M2 _ M2 wD aA:=sD;refine aC (aV cf G G G (dE sD W4) G ?_);exact a01
        refine aF ?_ ?_
        ·intro wD E sD;replace sD:Step M2 _ M2 wD aA:=sD;refine aD (M:=M2) (A:=RT.po) (B:=(RT.int .i64).sl) bW G G iJ q0 Xm G G q0 hp7 sD.le (λuf tT=>?_);exact a61
        refine aF ?_ ?_
        ·intro wD E sD;replace sD:Step M2 _ M2 wD aA:=sD;intro v5 tg;refine bE ah G G G G G (show dv ((RT.int .i64).sl) M2 wD v5 ps from tg) bY (λuf tT=>?_);exact a61
        refine aF ?_ ?_
        ·intro wD E sD;replace sD:Step M2 _ M2 wD aA:=sD;refine aC ?_;intro v6 wz;refine a8 G G alX (BI (M:=M2) (sD.lt eK) (hB.le sD.le) (show((RT.int .i64).sl).V M2 wD ps v6 from wz) k3) (λrP wP hP=>?_);obtain⟨xP,sP,hP1,hP2⟩:=hP;rw[if_pos f7]at hP1 hP2;exact ad ⟨G,G,_,G,⟨xP,hP1,hP2⟩,sP⟩
        refine aF ?_ ?_
        ·intro wD E sD;replace sD:Step M2 _ M2 wD aA:=sD;intro v7 Cw;refine ab G G ?_;exact ad ⟨G,G,_,G,Cw,bz⟩
        refine aF ?_ ?_
        ·intro wD E sD;replace sD:Step M2 _ M2 wD aA:=sD;intro v8 Hf;obtain⟨xP,rfl,hP2⟩:=Hf;refine cq G G G ?_;exact ad ⟨G,G,_,G,hP2,bz⟩
        refine aF ?_ ?_
        ·intro wD E sD;replace sD:Step M2 _ M2 wD (λk=>k=bx):=sD;intro v8 Hf;obtain⟨xP,rfl,hP2⟩:=Hf;refine cq G G G ?_;exact a01
        refine aF ?_ ?_
        ·intro wD E sD;replace sD:Step M2 _ M2 wD (λk=>k=bx):=sD;refine aC (aC (aC (aC (aC (aC ?_)))));intro v5 tg;intro v6 wz;intro v7 Cw;intro v8 Hf;intro v9 Au;refine cu G ⟨_,G⟩ G ?_;exact a01
        refine aF ?_ ?_
        ·intro wD E sD;replace sD:Step M2 _ M2 wD aA:=sD;refine aC (aC (aC (aC (aC (aC ?_)))));intro v5 tg;intro v6 wz;intro v7 Cw;intro v8 Hf;intro v9 Au;refine bR fu G G Gl q0 G G ?_;exact a01
        refine aF ?_ ?_
        ·intro wD E sD;replace sD:Step M2 _ M2 wD aA:=sD;refine aC ?_;intro v9 Au;intro v7 Cw;refine aC (aC (aC (aC (aC ?_))));intro v5 tg;intro v6 wz;intro v7 Cw;intro v8 Hf;intro v9 Au;refine cF (M:=M2) Gl G G (dE sD hX) G (mv (A:=RT.u8.sl) Au G G) h7.mx (λwS hXS sS=>?_);exact ad ⟨G,G,undef,G,⟨_,hXS,RT.V.le (A:=RT.u8.sl) sS.le Au⟩,sS⟩
        exact yh
       ·intro aoE RS;replace RS:Step M2 _ M2 aoE (λk=>k=bx):=RS;refine aC (aC (aC (aC (aC ?_))));intro avD aoF;intro avE aoG;intro avF aoH;intro avG aoI;intro avH aoJ;refine aC (aC (aC ?_));intro aoK VT;obtain⟨v12,aoL,aoM⟩:=VT;have h8:=h7.aa6 RS aoL aoM h7.hk;have hp8:=hp7.le q0 RS.le;refine aI ?_;have hO:=h8.o;have hX:=h8.x;apply T.Ly (M:=M2) (n:=85) _ mixed [] [cM.eq _,cM.eq _,cM.eq _,cM.eq _,cM.ptr ((RT.int .i64).sl) ps,cM.V ((RT.int .i64).sl) ps,cM.eq (.int .i64 ps.length),cM.eq _,cM.eq _,cM.eq _]
        ·rfl
        ·rfl
        ·rfl
        ·rfl
        ·exact aj3
        ·exact yn.none
        ·refine aO ?_ ?_
         ·intro wD E sD;refine aV fY G G G (dE sD W4) G ?_;exact a01
         refine aO ?_ ?_
         ·intro wD E sD;refine aC (cu G ⟨_,G⟩ G ?_);exact a01
         refine aO ?_ ?_
         ·intro wD E sD;refine aC (bR fu G G I3 q0 G G ?_);exact a01
         refine aO ?_ ?_
         ·intro wD E sD;refine aC (aV aq G G G (dE sD W4) G ?_);exact a01
         refine aO ?_ ?_
         ·intro wD E sD;refine aD (M:=M2) (A:=RT.po) (B:=(RT.int .i64).sl) bW G G iJ q0 Xm G G q0 hp8 sD.le (λuf tT=>?_);exact a61
         refine aO ?_ ?_
         ·intro wD E sD;intro v4 qm;refine bE ah G G G G G (show dv ((RT.int .i64).sl) M2 wD v4 ps from qm) bY (λuf tT=>?_);exact a61
         refine aO ?_ ?_
         ·intro wD E sD;intro v5 tg;refine bK ah G (show((RT.int .i64).sl).V M2 wD ps v5 from tg) G ?_;exact a01
         refine aO ?_ ?_
         ·intro wD E sD;refine aC (aC (bG G G G k3 ?_));exact a01
         refine aO ?_ ?_
         ·intro wD E sD;refine aC (aC (aC (aC (aC ?_))));intro v4 qm;intro v5 tg;refine aC (aC (cu G ⟨_,G⟩ G ?_));exact a01
         refine aO ?_ ?_
         ·intro wD E sD;refine aC (aC (aC (aC (aC ?_))));intro v4 qm;intro v5 tg;refine aC (aC (bR fu G G I3 q0 G G ?_));exact a01
         exact vV
        ·intro Qz l1;refine aC (aC (aC (aC ?_)));intro avI aoN;intro XG EJ;refine aC (aC (aC (aC ?_)));have h9:=h8.step l1;refine cF (M:=M2) I3 G G h9.x G G h9.mx (λw13 aoO FQ=>?_);refine ad ⟨G,?_⟩;have VE:=h9.aa6 FQ aoO (h9.hb.le FQ.le) h9.hk;have aoP:=(hp8.le q0 l1.le).le q0 FQ.le;refine aH ?_;refine aD (A:=RT.po) (B:=RT.int .i64) bW G G I3 q0 Nv G G q0 aoP bY (λagA RU=>?_);refine bV aq G G RU bY (λ_=>?_);refine bc (v':= .int .i64 d) G ?_;refine cF (M:=M2) I3 G G VE.l G G VE.ml (λw14 aoQ lI=>?_);have h11:=VE.VR lI aoQ;refine ad (aH (bG G G G k3 (ab G G (ad ?_))));refine⟨G,(j+1,v12),a89,?_,?_⟩
         ·refine⟨by simp only;omega,?_,?_⟩
          ·exact lI.keep (FQ.keep (l1.aP (RS.keep (BM.keep (gO.aP (Yb.aP hQ)) k3) k3)) k3) k3
          ·simp only;rw[show i+(j+1)=i+j+1 from by omega,AY hx,f5,ftk];exact h11
         ·simp only;omega
     ·refine cO (T.aQ ?_);obtain rfl:j=((l.drop i).take 8).length:=by omega
      have hbq:M2 bq:=by rw[IK];exact .inl G
      refine aV aq G G G h4.l G (bR (o':=2) vU G G I3 q0 G G ?_);refine cF (M:=M2) I3 G G hQ G G hbq (λw16 agB DV=>?_);have h16:=h4.other DV hDq hqv;change w16.heap[bq]? =some (.cells [.int .i64 (eY (-1) (l.take i)).length,.int .i64 (eg (-1) (l.take i)),.int .i64 (eg (-1) (l.take (i+((l.drop i).take 8).length))),.int .i64 ((l.drop i).take 8).length].toArray 209 (0,0))at agB;refine ad ?_;have hO:=h16.o;have hX:=h16.x;have VU:=h16.hk;have gz:∀k,vk.ownBlock=some k->k≠bo:=λk hk=>by have:=(VU.base k hk).1;omega
      have aAT:=ae h16.r;have g1:=wk l (-1) pg k3 i;have g2:=wk l (-1) pg k3 (i+((l.drop i).take 8).length);have g3:=pK l i;apply T.Ly (M:=M2) (n:=85) _ mixed [(7,λk=>vk.ownBlock=some k)] [cM.eq _,cM.eq _,cM.eq _,cM.eq _,cM.eq _,cM.eq (.agg [.int .i64 (eY (-1) (l.take i)).length,.int .i64 (eg (-1) (l.take i)),.int .i64 (eg (-1) (l.take (i+((l.drop i).take 8).length))),.int .i64 ((l.drop i).take 8).length].toArray),cM.V ((RT.bl).sl) [(((eY (-1) (l.take i)).length:Int),eg (-1) (l.take i),eg (-1) (l.take (i+((l.drop i).take 8).length)),(((l.drop i).take 8).length:Int))],⟨λt w=>∃M3,Own RT.bl 209 M3 w (D+2) t (uR l ((i+7)/8)++[(((eY (-1) (l.take i)).length:Int),eg (-1) (l.take i),eg (-1) (l.take (i+((l.drop i).take 8).length)),(((l.drop i).take 8).length:Int))])/\Step M2 w16 M3 w (λk=>vk.ownBlock=some k),aA,fun⟨M3,h1,h2⟩ s hN=>⟨M3,h1.aE ((s.eL hN a42).any M3),h2.aw ((s.eL hN a42).any M3)⟩⟩,cM.eq _,cM.eq _]
      ·rfl
      ·rfl
      ·rfl
      ·rfl
      ·intro p hp b hb;simp only[b9]at hp;subst hp;exact VU.mut_ b hb
      ·exact⟨λ_ _ _ _=>trivial,⟨λ_ _ _ _=>trivial,⟨λ_ _ _ _=>trivial,⟨λ_ _ _ _=>trivial,⟨λ_ _ _ _=>trivial,⟨λ_ _ _ _=>trivial,⟨λ_ _ _ _=>trivial,⟨λp hp=>by simp at hp,⟨λ_ _ _ _=>trivial,⟨λ_ _ _ _=>trivial,trivial⟩⟩⟩⟩⟩⟩⟩⟩⟩⟩
      ·refine aO ?_ ?_
       ·intro wD E sD;replace sD:Step M2 _ M2 wD (λk=>vk.ownBlock=some k):=sD;refine aV fY G G G (sD.keep hO (λhb=>gz _ hb rfl)) G ?_;exact a01
       refine aO ?_ ?_
       ·intro wD E sD;replace sD:Step M2 _ M2 wD (λk=>vk.ownBlock=some k):=sD;refine aV fY G G G (sD.keep hO (λhb=>gz _ hb rfl)) G ?_;exact a01
       refine aO ?_ ?_
       ·intro wD E sD;replace sD:Step M2 _ M2 wD (λk=>vk.ownBlock=some k):=sD;refine aC (cu G ⟨_,G⟩ G ?_);exact a01
       refine aO ?_ ?_
       ·intro wD E sD;replace sD:Step M2 _ M2 wD (λk=>vk.ownBlock=some k):=sD;refine aC (bR fu G G Nz q0 G G ?_);exact a01
       refine aO ?_ ?_
       ·intro wD E sD;replace sD:Step M2 _ M2 wD aA:=sD;refine aC (aV j0 G G G (dE sD W4) G ?_);exact a01
       refine aO ?_ ?_
       ·intro wD E sD;replace sD:Step M2 _ M2 wD (λk=>vk.ownBlock=some k):=sD;refine gJ (vs:=[.int .i64 (eY (-1) (l.take i)).length,.int .i64 (eg (-1) (l.take i)),.int .i64 (eg (-1) (l.take (i+((l.drop i).take 8).length))),.int .i64 ((l.drop i).take 8).length]) vU G Ew G G G (sD.keep agB (λhb=>hqv _ hb rfl)) ?_;exact a01
       refine aO ?_ ?_
       ·intro wD E sD;replace sD:Step M2 _ M2 wD aA:=sD;refine aC ?_;refine dP (A:=RT.bl) (hn:=by decide) (M:=M2) j0 Ew q0 G G (sD.lt h16.lt) (alv k3 k3 k3 k3) (.inl G) (λuS wS hS sS=>?_);exact ad ⟨G,G,_,G,hS,sS⟩
       refine aO ?_ ?_
       ·intro wD E sD;replace sD:Step M2 _ M2 wD aA:=sD;refine aC ?_;intro v6 wz;refine cN (M:=M2) (base:=D+2) j0 Ew rfl rfl rfl rfl (VU.aE sD) (show((RT.bl).sl).V M2 wD [(((eY (-1) (l.take i)).length:Int),eg (-1) (l.take i),eg (-1) (l.take (i+((l.drop i).take 8).length)),(((l.drop i).take 8).length:Int))] v6 from wz) bY (by simp[uR];omega) (by simp[uR];omega) (by have:=sD.size;omega) (λv3 M3 w3 BH s3=>?_);exact ad ⟨G,G,_,G,⟨M3,BH,(sD.eL a42 VU.mut_).trans s3 (λb _ hb=>hb)⟩,s3.back⟩
       refine aO ?_ ?_
       ·intro wD E sD;replace sD:Step M2 _ M2 wD (λk=>vk.ownBlock=some k):=sD;refine aC (aC (aC (aC (aC (aC (aC ?_))))));intro v6 wz;intro v7 Cw;refine cu G ⟨_,G⟩ G ?_;exact a01
       refine aO ?_ ?_
       ·intro wD E sD;replace sD:Step M2 _ M2 wD (λk=>vk.ownBlock=some k):=sD;refine aC (aC (aC (aC (aC (aC (aC ?_))))));intro v6 wz;intro v7 Cw;refine bR fu G G Nz q0 G G ?_;exact a01
       exact vV
      ·intro aoR agC;replace agC:Step M2 _ M2 aoR (λk=>vk.ownBlock=some k):=agC;refine aC (aC (aC (aC (aC (aC ?_)))));intro avJ aoS;intro avK abb;refine aC (aC ?_);obtain⟨M3,BH,sR⟩:=abb;obtain⟨⟨N7,hm3,aAU⟩,IX⟩:=h16.grow sR BH;refine cF (M:=M3) Nz rfl rfl N7 rfl (by obtain⟨_,_,he,_⟩:=BH.isSlice;rw[he];rfl) hm3 (λw17 aoU E3=>?_);refine ad ⟨G,?_⟩;have h17:=IX E3 aoU;have h18:=h17.oP (st':= .loop (rec .ready none)) h17.r;have hE:i+((l.drop i).take 8).length=min (i+8) l.length:=by omega
       rw[hE,PF k3 hi]at h18;exact⟨h17.r,true,rfl,λ_=>⟨M3,_,_,h18,by omega,by omega⟩,λh=>by cases h⟩
  ·obtain⟨Mz,vb,vk,h,_,_⟩:=h3.resolve_right (λh=>h);left;rw[mB]at h;have h5:=h.oP (st':= .loop (rec .exhausted none)) h.r;refine ⟨h.r,?_⟩;generalize w3.putObj (D+1) _=wE at h5 ⊢;refine T.aQ (aV fY G G G h5.o G (aB G G (Rg.bA G G (aT ?_))));obtain⟨q1,q2,q3,q4,q5,q6,q7,q8,q9,q10,q11,q12,q13,q14,q15,q16,q17,q18⟩:=h5.ne;have sZ:Step Mz wE Mz (wE.putObj D (.deferred none)) (λk=>k=D):=eO h5.md;have SZ:=h5.S.cL sZ (λk hk=>by subst hk;omega);have ht:=ri l;refine Zv rfl rfl rfl h5.d ⟨SZ.back,λ_=>⟨_,rfl,?_⟩,λhf=>by rw[pg]at hf;cases hf⟩;exact aet (sZ.keep h5.x k3) (λhh=>by have:=hM _ hh;omega) ((h5.hb.le sZ.le).le (CC hM SZ)) (gT hM SZ ((h5.hk.step sZ (λk hk hh=>by have:=(h5.hk.base k hk).1;omega)).kj k3) (by simp[uR];omega)) k3
namespace TKBldG
theorem wK:TI Tryz.prog 80 (.slice none 0 0) 1 24:=by unfold TI;kernel_rfl
theorem Hv:TI Tryz.prog 196 (.slice none 0 0) 1 24:=by unfold TI;kernel_rfl
theorem abc:Enters Tryz.prog 145:=enters Tryz.func145 rfl q0
theorem aoV:Enters Tryz.prog 197:=enters Tryz.func197 rfl q0
end TKBldG
open TKBldG
set_option maxRecDepth 10000
theorem index_spec {M:aJ} {l:List (List Po)} {v0:Value} {g:FuncId} {cap:List Value} {B:Nat} {J:Nat->aJ->World->Prop} {bad:List Po->Bool} (w0:World) (hM:Lt M w0) (hv:(((RT.po).sl).sl).V M w0 l v0) (hg:Enters Tryz.prog g) (hJ:J 0 M w0) (mi:∀i M w M' w',J i M w->Step M w M' w' aA->J i M' w') (ht:∀i M w x vx,J i M w->Lt M w->l[i]? =some x->((RT.po).sl).V M w x vx->Spec Tryz.prog g ([vx]++cap).toArray w (λv w'=>∃M',Lt M' w'∧v= .bool (bad x)/\(bad x=false->J (i+1) M' w')/\Step M w M' w' (nJ M B))):
  Spec Tryz.prog 197 #[v0,.func (.func g) #[] cap.toArray] w0 (λv w=>∃M' k,v= .int .i64 k/\ -1<=k/\Lt M' w/\Step M w0 M' w (nJ M B)/\(k= -1->(∀x∈l,bad x=false)/\J l.length M' w)/\(0<=k->∃x∈l,bad x=true)):=by
 have hlen:=dZ hv;refine bF (args:=[_,_]) (fn:=Tryz.f197) Tryz.func197 G (n:=19) Tryz.ntmps197 ?_;have S:Step M w0 M w0 (nJ M B):=(bz).eL a42 (λ_ h=>h.2);refine T.aQ (Rg.bA G G (aI (T.aQ (ab G G (bK cH G hv G (ab G G (ad (aS ?_))))))));refine dg (σ:=Nat) (λq=>[(0,v0),(1,.func (.func g) #[] cap.toArray),(6,v0),(7,.int .i64 (l.length:Int)),(8,.int .i64 (q:Int))]) (λq w=>∃M',Lt M' w/\Step M w0 M' w (nJ M B)/\(((RT.po).sl).sl).V M' w l v0/\J q M' w/\q<=l.length/\∀x∈l.take q,bad x=false) (λq=>l.length-q) 0 a19 ?_ ?_
 ·exact⟨M,hM,S,hv,hJ,bC _,λx h=>by simp at h⟩
 ·clear hM S hv hJ;rintro i w ⟨M1,hM,S,hv,hJ,hi,kx⟩;refine T.aQ (ch G G G (ad (aI ?_)));refine bM G (λc2=>?_) (λc2=>?_)
  ·refine aR (aI (aS (T.aQ (ab G G (Rg.bA G G (T.aQ (ab G G (ab G G ?_))))))));refine ab G G ?_;refine bX cH wK G G G hv bY k3 (λu x zu hu=>?_);rw[an]at zu;refine bE bu G G G G G hu bY (λvx uV=>?_);refine CB (first:=[]) (captured:=cap) (xs:=[.tmp 15]) G G G hg (ht i _ _ x vx hJ hM zu uV) (λr4 w4 hc=>?_);obtain⟨M4,hM4,rfl,hJ4,s4⟩:=hc;refine bc (v':= .bool (decide (bad x=true))) (by simp) ?_;have S4:=S.trans s4 (λk hk h=>⟨h.1,(S.mem k hk).1 h.2⟩);refine ad ?_;refine bM G (λc4=>?_) (λc4=>?_)
   ·refine T.aQ (ab G G (Rg.bA G G (aT ?_)));exact aX G G ⟨M4,_,G,by omega,hM4,S4,λh=>absurd h k3,λ_=>⟨x,au zu,c4⟩⟩
   ·refine aR (aH (bG G G G k3 (ab G G (ad ?_))));refine⟨G,i+1,a19,?_,?_⟩
    ·have hb:bad x=false:=by simpa using c4
     exact⟨M4,hM4,S4,hv.le s4.le,hJ4 hb,by omega,λy hy=>by
      rw[bB,zu,bU,cP,b9]at hy;rcases hy with hy|rfl
      ·exact kx y hy
      ·exact hb⟩
    ·omega
  ·refine cO (T.aQ (Rg.bA G G (aT ?_)));rw[aL k3]at kx;have e:i=l.length:=by omega
   subst e;exact aX G G ⟨_,_,G,by omega,hM,S,λ_=>⟨kx,hJ⟩,λh=>absurd h k3⟩
theorem C2 {M:aJ} {l:List (List Po)} {v0:Value} {g:FuncId} {cap:List Value} {B:Nat} {J:Nat->aJ->World->Prop} {bad:List Po->Bool} (w0:World) (hM:Lt M w0) (hv:(((RT.po).sl).sl).V M w0 l v0) (hg:Enters Tryz.prog g) (hJ:J 0 M w0) (mi:∀i M w M' w',J i M w->Step M w M' w' aA->J i M' w') (ht:∀i M w x vx,J i M w->Lt M w->l[i]? =some x->((RT.po).sl).V M w x vx->Spec Tryz.prog g ([vx]++cap).toArray w (λv w'=>∃M',Lt M' w'∧v= .bool (bad x)/\(bad x=false->J (i+1) M' w')/\Step M w M' w' (nJ M B))):
  Spec Tryz.prog 146 #[v0,.func (.func g) #[] cap.toArray] w0 (λv w=>∃M' k,v= .bool (decide (0<=k))/\ -1<=k/\Lt M' w/\Step M w0 M' w (nJ M B)/\(k= -1->(∀x∈l,bad x=false)/\J l.length M' w)/\(0<=k->∃x∈l,bad x=true)):=by
 refine bF (args:=[_,_]) (fn:=Tryz.f146) Tryz.func146 G (n:=9) Tryz.ntmps146 (T.aQ (Rg.bA G G (T.aQ (ab G G (ab G G ?_)))));refine a8 G G aoV (index_spec w0 hM hv hg hJ mi ht) (λr w1 hc=>?_);obtain⟨M1,k,rfl,hk,h2⟩:=hc;refine eP G G G (Rg.bA G G (aT ?_));exact aX G G ⟨M1,k,G,hk,h2⟩
def Hw (x:List Po):Int:=match x.getLast? with|some p=>p.1|none=> -1
def pN (n:Int) (x:List Po):Bool:= !ik (-1) x||x.isEmpty||decide (n<=Hw x)
theorem Hx {x:List Po} {p:Po} (h:x[x.length-1]? =some p):Hw x=p.1:=by
 unfold Hw;rw[List.getLast?_eq_getElem?,h]
structure Room (x:List Po):Prop where
 ps:∀p∈x,p.2.length<=1099511627776
 by_:(eY (-1) x).length<=35184372088832
 ln:x.length<=1099511627776
 uT:kG x<=4611686018427387904
def RT.cell:RT Value where
 n:=1
 agg:=false
 R:=λ_ _ x vs=>vs=[x]/\x.oneCell'=true
 len:=by rintro _ _ x vs ⟨rfl,_⟩;rfl
 one:=by rintro _ _ x vs ⟨rfl,h⟩ v hv;simp at hv;subst hv;exact h
 le:=λ_ h=>h
theorem VV {M:aJ} {w:World} {v:Value} (h:v.oneCell'=true):RT.cell.V M w v v:=⟨[v],⟨rfl,h⟩,rfl⟩
theorem eX.cells {α:Type} {A:RT α} (hA:A.n=1) {M:aJ} {w:World}:∀{xs:List α} {C:List Value},eX A M w xs C->∃ys:List Value,eX RT.cell M w ys C/\ys.length=xs.length
 |[],C,h=>⟨[],h,rfl⟩
 |x::xs,C,h=>by
  obtain⟨vs,r,h1,h2,h3⟩:=h;obtain⟨ys,h4,h5⟩:=eX.cells hA h3;have hl:=A.len h2
  match vs,hl,h1,h2 with
  |[v],_,h1,h2=>exact⟨v::ys,⟨[v],r,h1,⟨rfl,A.one h2 v (by simp)⟩,h4⟩,by simp[h5]⟩
  |[],hl,_,_=>simp at hl;omega
  |_::_::_,hl,_,_=>simp at hl;omega
theorem Own.cells {α:Type} {A:RT α} (hA:A.n=1) {e:TypeId} {M:aJ} {w:World} {base:Nat} {v:Value} {xs:List α} (h:Own A e M w base v xs):∃ys:List Value,Own RT.cell e M w base v ys/\ys.length=xs.length:=by
 obtain⟨⟨C,hr,ha⟩,hm⟩:=h;obtain⟨ys,h1,h2⟩:=ha.cells hA;exact⟨ys,⟨⟨C,by rw[h2,show RT.cell.n=A.n from hA.symm];exact hr,h1⟩,hm⟩,h2⟩
def C3 (bl bn:Nat) (n:Int) (ls:List (List Po)) (B:Nat) (i:Nat) (M:aJ) (w:World):Prop:=∃vl,w.heap[bl]? =some (.cells #[vl] 196 (0,0))/\M bl/\B<=bl/\w.heap[bn]? =some (.cells #[.int .i64 n] 3 (0,0))/\M bn/\Own ((RT.li).ptr) 142 M w B vl ((ls.take i).map pJ)
theorem C3.aE {bl bn:Nat} {n:Int} {ls:List (List Po)} {B i:Nat} {M M':aJ} {w w':World} (h:C3 bl bn n ls B i M w) (s:Step M w M' w' aA):C3 bl bn n ls B i M' w':=by
 obtain⟨vl,h1,h2,h3,h4,h5,h6⟩:=h;exact⟨vl,s.aP h1,(s.mem _ (ae h1)).2 h2,h3,s.aP h4,(s.mem _ (ae h4)).2 h5,h6.aE s⟩
theorem abd {M:aJ} {bl bn B i:Nat} {n:Int} {ls:List (List Po)} {x:List Po} {v0:Value} (w0:World) (hM:Lt M w0) (hB:B<=w0.heap.size) (hJ:C3 bl bn n ls B i M w0) (hx:ls[i]? =some x) (hv:((RT.po).sl).V M w0 x v0) (hr:Room x) (pX:i<=1000000000) (hm:ik (-1) x=true):
  Spec Tryz.prog 144 #[v0,.pointer (some ⟨bl,0,none⟩),.pointer (some ⟨bn,0,none⟩)] w0 (λv w=>∃M',Lt M' w/\v= .bool (pN n x)/\(pN n x=false->C3 bl bn n ls B (i+1) M' w)/\Step M w0 M' w (nJ M B)):=by
 have hlen:=dZ hv;obtain⟨vl,gl,mL,hBl,gn,oS,ho⟩:=hJ;have nln:bl≠bn:=λh=>by rw[h,gn]at gl;simp at gl
 refine bF (args:=[_,_,_]) (fn:=Tryz.f144) Tryz.func144 G (n:=34) Tryz.ntmps144 ?_;have S:Step M w0 M w0 (nJ M B):=(bz).eL a42 (λ_ h=>h.2);refine T.aQ (Rg.bA G G (T.aQ (ab G G ?_)));refine a8 G G abc (DT hM hv hr.ps hr.by_ hr.ln hr.uT) (λr1 w1 hc=>?_);obtain⟨s1,hok,kx⟩:=hc;obtain⟨p,rfl,hp⟩:=hok hm;have:=ae gl;replace mL:=(s1.mem _ this).2 mL;replace gl:=s1.aP gl;have:=ae gn;replace oS:=(s1.mem _ this).2 oS;replace gn:=s1.aP gn;replace hv:=hv.le s1.le;replace ho:=ho.aE s1;replace hM:=s1.lt hM;have:=S.size;replace S:=S.aw s1;refine ab G G (cq G G G (cq G G G (aB G G (Rg.bA G G (T.aQ (aV eZ G G G gl G (bc (v':=vl) G (ab G G ?_))))))));refine dP (A:=((RT.li).ptr)) (hn:=by decide) (M:=M) eZ CO q0 G G hM (oQ.2 hp) (.inr ⟨G,G⟩) (λagD aoX ni sT=>?_);have:=ae gl;replace mL:=(sT.mem _ this).2 mL;replace gl:=sT.aP gl;have:=ae gn;replace oS:=(sT.mem _ this).2 oS;replace gn:=sT.aP gn;replace hv:=hv.le sT.le;replace hp:=hp.le q0 sT.le;replace ho:=ho.aE sT;replace hM:=sT.lt hM;have:=S.size;replace S:=S.aw sT;refine cN (M:=M) (base:=B) eZ CO rfl rfl rfl rfl ho ni bY a03 a03 ad1 (λabe Kc aoY RV sU=>?_);have:=ae gl;replace mL:=(sU.mem _ this).2 mL;replace gl:=sU.keep gl (λh=>by first|exact ho.eU gl h|exact ho.eu gl q0 h|(have:=(ho.base _ h).1;omega));have:=ae gn;replace oS:=(sU.mem _ this).2 oS;replace gn:=sU.keep gn (λh=>by first|exact ho.eU gn h|exact ho.eu gn q0 h|(have:=(ho.base _ h).1;omega));replace hv:=hv.le sU.le;replace hp:=hp.le q0 sU.le;replace ni:=ni.le sU.le;replace hM:=sU.lt hM;have:=S.size
 replace S:=S.trans sU (λk hk h=>⟨(ho.base k h).1,(S.mem k hk).1 (ho.mut_ k h)⟩);replace ho:=RV;refine cF (M:=Kc) Hv rfl rfl gl rfl a88 mL (λabf RW qw=>?_);change abf.heap[_]? =some (Obj.cells #[abe] _ _)at RW;have:=ae gl;replace mL:=(qw.mem _ this).2 mL;have:=ae gn;replace oS:=(qw.mem _ this).2 oS;replace gn:=qw.keep gn a05;replace hv:=hv.le qw.le;replace hp:=hp.le q0 qw.le;replace ni:=ni.le qw.le;replace ho:=ho.step qw (λc hc (h:c=bl)=>ho.eu gl q0 (h▸hc));replace hM:=qw.lt hM;have:=S.size;replace S:=S.trans qw (λk hk h=>by have h:_=_:=h;subst h;first|(exfalso;omega)|(show _<=_;omega)|exact⟨by first|omega|assumption,(S.mem _ hk).1 ((qw.mem _ (ae gl)).1 mL)⟩|exact .inl rfl|exact .inr rfl|exact .inr (.inl rfl)|exact .inr (.inr rfl)|exact .inr (.inr (.inl rfl))|exact rfl);have gl_:=RW;clear gl;have gl:=gl_;clear gl_;refine ad (aI ?_);apply jU mixed rfl rfl;intro wD3 Xu;have rX:=Xu Kc;have:=ae gl;replace mL:=(rX.mem _ this).2 mL;replace gl:=rX.aP gl;have:=ae gn;replace oS:=(rX.mem _ this).2 oS;replace gn:=rX.aP gn;replace hv:=hv.le rX.le;replace hp:=hp.le q0 rX.le;replace ni:=ni.le rX.le;replace ho:=ho.aE rX;replace hM:=rX.lt hM;have:=S.size;replace S:=S.aw rX;refine ab G G (Rg.bL (fH G G G (Rg.bL (ab G G (Rg.bL (Rg.Pe (g:=18) G (q0) (ak G G (ab G G (Rg.bL (ak G G (bK bu G hv G ?_)))))))))));refine Rg.bL (ak G G (sJ G G G (Rg.bL (aM G G G (Rg.bL (ab G G (Rg.bL ?_)))))));refine aW (g:=23) G (λabg=>?_) (λabg=>?_)
 ·refine ao G G G G (Rg.bL (ao G G G G (Rg.bL (ao G G G G (Rg.bL (ao G G G G (Rg.bL (ao G G G G (Rg.bL (ao G G G G (Rg.bL ?_)))))))))));refine ao G G G G (Rg.bL (ao G G G G (Rg.bL (ao G G G G (Rg.bL (bm G G G (Rg.bL (aB G G (Rg.bL (dD (aT ?_)))))))))))
  first
  |(have VW:pN n x=true:=by
     have:x=[]:=dL.1 k3;simp[pN,this]
    rw[VW];exact aX G G ⟨_,hM,G,(λh=>by cases h),S⟩)
  |(have fG:x.isEmpty=false:=by cases x with
     |nil=>simp at abg
     |cons a t=>rfl
    have hbv:pN n x=decide (n<=q.1):=by unfold pN;rw[hm,fG,Hx hq];rfl
    rw[hbv];exact aX rfl rfl ⟨_,hM,rfl,λ_=>⟨_,gl,mL,hBl,gn,oS,by rw[bB,hx,bU,cG];exact ho⟩,S⟩)
 ·refine ak G G (ab G G (Rg.bL (ak G G (ab G G (Rg.bL (ak G G (bK bu G hv G (Rg.bL (ak G G (fQ G G G k3 (Rg.bL ?_)))))))))));refine ak G G ?_;obtain⟨q,hq⟩:∃q,x[x.length-1]? =some q:=⟨_,al k3⟩;refine bX bu ng G G G hv bY k3 (λu3 a Us kA=>?_);obtain rfl:q=a:=ar (hq.symm.trans (by rw[show((x.length:Int)-1).toNat=x.length-1 from by omega]at Us;exact Us));refine Rg.bL (ak G G ?_);refine aD (M:=Kc) (A:=RT.po) (B:=RT.int .i64) bW G G I3 q0 (Nv) G G q0 W4 (by repeat (first|exact bH _ _|refine aZ (bI W4) ?_)) (λavL aoZ=>?_);refine Rg.bL (ak G G ?_);refine bV (M:=Kc) aq G G W4 (by repeat (first|exact bH _ _|refine aZ (bI W4) ?_)) (λRX=>?_);refine bc (v':= .int .i64 (q.1)) G ?_;replace RX: -9223372036854775808<=(q.1:Int)/\q.1<=9223372036854775807:=RX;refine Rg.bL (ak G G (aV aq G G G gn G (bc (v':= .int .i64 n) G (Rg.bL (ak G G (eP G G G (Rg.bL (aM G G G (Rg.bL (aB G G (Rg.bL ?_)))))))))));refine dD (aT ?_)
  first
  |(have VW:pN n x=true:=by
     have:x=[]:=dL.1 k3;simp[pN,this]
    rw[VW];exact aX G G ⟨_,hM,G,(λh=>by cases h),S⟩)
  |(have fG:x.isEmpty=false:=by cases x with
     |nil=>simp at abg
     |cons a t=>rfl
    have hbv:pN n x=decide (n<=q.1):=by unfold pN;rw[hm,fG,Hx hq];rfl
    rw[hbv];exact aX rfl rfl ⟨_,hM,rfl,λ_=>⟨_,gl,mL,hBl,gn,oS,by rw[bB,hx,bU,cG];exact ho⟩,S⟩)
theorem VX {M:aJ} {bl bn B i:Nat} {n:Int} {ls:List (List Po)} {x:List Po} {v0:Value} (w0:World) (hM:Lt M w0) (hB:B<=w0.heap.size) (hJ:C3 bl bn n ls B i M w0) (hx:ls[i]? =some x) (hv:((RT.po).sl).V M w0 x v0) (hr:Room x) (pX:i<=1000000000) (hm:ik (-1) x=false):
  Spec Tryz.prog 144 #[v0,.pointer (some ⟨bl,0,none⟩),.pointer (some ⟨bn,0,none⟩)] w0 (λv w=>∃M',Lt M' w/\v= .bool (pN n x)/\(pN n x=false->C3 bl bn n ls B (i+1) M' w)/\Step M w0 M' w (nJ M B)):=by
 have hlen:=dZ hv;obtain⟨vl,gl,mL,hBl,gn,oS,ho0⟩:=hJ;have nln:bl≠bn:=λh=>by rw[h,gn]at gl;simp at gl
 obtain⟨ys,ho,Ja⟩:=ho0.cells rfl;rw[ay,aU]at Ja;clear ho0;refine bF (args:=[_,_,_]) (fn:=Tryz.f144) Tryz.func144 G (n:=34) Tryz.ntmps144 ?_;have S:Step M w0 M w0 (nJ M B):=(bz).eL a42 (λ_ h=>h.2);refine T.aQ (Rg.bA G G (T.aQ (ab G G ?_)));refine a8 G G abc (DT hM hv hr.ps hr.by_ hr.ln hr.uT) (λr1 w1 hc=>?_);obtain⟨s1,hok,kx⟩:=hc;obtain rfl:=kx hm;have:=ae gl;replace mL:=(s1.mem _ this).2 mL;replace gl:=s1.aP gl;have:=ae gn;replace oS:=(s1.mem _ this).2 oS;replace gn:=s1.aP gn;replace hv:=hv.le s1.le;replace ho:=ho.aE s1;replace hM:=s1.lt hM;have:=S.size;replace S:=S.aw s1;refine ab G G (cq G G G (cq G G G (aB G G (Rg.bA G G (T.aQ (aV eZ G G G gl G (bc (v':=vl) G (ab G G ?_))))))));refine dP (A:=RT.cell) (hn:=by decide) (M:=M) eZ CO q0 G G hM (VV (v:= .pointer none) G) (.inr ⟨G,G⟩) (λagD aoX ni sT=>?_);have:=ae gl;replace mL:=(sT.mem _ this).2 mL;replace gl:=sT.aP gl;have:=ae gn;replace oS:=(sT.mem _ this).2 oS;replace gn:=sT.aP gn;replace hv:=hv.le sT.le;replace ho:=ho.aE sT;replace hM:=sT.lt hM;have:=S.size;replace S:=S.aw sT;refine cN (M:=M) (base:=B) eZ CO rfl rfl rfl rfl ho ni bY a03 a03 ad1 (λabe Kc aoY RV sU=>?_);have:=ae gl;replace mL:=(sU.mem _ this).2 mL;replace gl:=sU.keep gl (λh=>by first|exact ho.eU gl h|exact ho.eu gl q0 h|(have:=(ho.base _ h).1;omega));have:=ae gn;replace oS:=(sU.mem _ this).2 oS;replace gn:=sU.keep gn (λh=>by first|exact ho.eU gn h|exact ho.eu gn q0 h|(have:=(ho.base _ h).1;omega));replace hv:=hv.le sU.le;replace ni:=ni.le sU.le;replace hM:=sU.lt hM
 have:=S.size;replace S:=S.trans sU (λk hk h=>⟨(ho.base k h).1,(S.mem k hk).1 (ho.mut_ k h)⟩);replace ho:=RV;refine cF (M:=Kc) Hv rfl rfl gl rfl a88 mL (λabf RW qw=>?_);change abf.heap[_]? =some (Obj.cells #[abe] _ _)at RW;have:=ae gl;replace mL:=(qw.mem _ this).2 mL;have:=ae gn;replace oS:=(qw.mem _ this).2 oS;replace gn:=qw.keep gn a05;replace hv:=hv.le qw.le;replace ni:=ni.le qw.le;replace ho:=ho.step qw (λc hc (h:c=bl)=>ho.eu gl q0 (h▸hc));replace hM:=qw.lt hM;have:=S.size;replace S:=S.trans qw (λk hk h=>by have h:_=_:=h;subst h;first|(exfalso;omega)|(show _<=_;omega)|exact⟨by first|omega|assumption,(S.mem _ hk).1 ((qw.mem _ (ae gl)).1 mL)⟩|exact .inl rfl|exact .inr rfl|exact .inr (.inl rfl)|exact .inr (.inr rfl)|exact .inr (.inr (.inl rfl))|exact rfl);have gl_:=RW;clear gl;have gl:=gl_;clear gl_;refine ad (aI ?_);apply jU mixed rfl rfl;intro wD3 Xu;have rX:=Xu Kc;have:=ae gl;replace mL:=(rX.mem _ this).2 mL;replace gl:=rX.aP gl;have:=ae gn;replace oS:=(rX.mem _ this).2 oS;replace gn:=rX.aP gn;replace hv:=hv.le rX.le;replace ni:=ni.le rX.le;replace ho:=ho.aE rX;replace hM:=rX.lt hM;have:=S.size;replace S:=S.aw rX;refine ab G G (Rg.bL (fH G G G (Rg.bL (ab G G (Rg.bL (Rg.Lr (g:=18) G (q0) (ao G G G G (Rg.bL (ao G G G G (Rg.bL (ao G G G G ?_)))))))))));refine Rg.bL (bm G G G (Rg.bL (ab G G (Rg.bL (ao G G G G (Rg.bL (ao G G G G (Rg.bL (ao G G G G (Rg.bL (ao G G G G ?_)))))))))));refine Rg.bL (ao G G G G (Rg.bL (ao G G G G (Rg.bL (ao G G G G (Rg.bL (ao G G G G (Rg.bL (ao G G G G (Rg.bL (bm G G G ?_)))))))))))
 refine Rg.bL (aB G G (Rg.bL (dD (aT ?_))));have VW:pN n x=true:=by simp[pN,hm]
 rw[VW];exact aX G G ⟨_,hM,G,(λh=>by cases h),S⟩
theorem RY {M:aJ} {bl bn B i:Nat} {n:Int} {ls:List (List Po)} {x:List Po} {v0:Value} (w0:World) (hM:Lt M w0) (hB:B<=w0.heap.size) (hJ:C3 bl bn n ls B i M w0) (hx:ls[i]? =some x) (hv:((RT.po).sl).V M w0 x v0) (hr:Room x) (pX:i<=1000000000):
  Spec Tryz.prog 144 #[v0,.pointer (some ⟨bl,0,none⟩),.pointer (some ⟨bn,0,none⟩)] w0 (λv w=>∃M',Lt M' w/\v= .bool (pN n x)/\(pN n x=false->C3 bl bn n ls B (i+1) M' w)/\Step M w0 M' w (nJ M B)):=by
 cases hm:ik (-1) x with
 |true=>exact abd w0 hM hB hJ hx hv hr pX hm
 |false=>exact VX w0 hM hB hJ hx hv hr pX hm
end Go.K
namespace Go.K
open Go.Proofs
namespace TKBldH
theorem tU:TI Tryz.prog 58 (.slice none 0 0) 1 24:=by unfold TI;kernel_rfl
theorem E4:TI Tryz.prog 72 (.agg #[(.slice none 0 0),(.slice none 0 0),(.slice none 0 0),(.slice none 0 0)]) 4 96:=by unfold TI;kernel_rfl
theorem ao0:TI Tryz.prog 141 (.agg #[(.slice none 0 0),(.slice none 0 0),(.pointer none)]) 3 56:=by unfold TI;kernel_rfl
theorem Hv:TI Tryz.prog 196 (.slice none 0 0) 1 24:=by unfold TI;kernel_rfl
theorem ao1:placesOf Tryz.prog 141=[(0,1),(1,1),(2,1)].map some:=by kernel_rfl
theorem VL:Enters Tryz.prog 51:=enters Tryz.func51 rfl q0
theorem E92:Enters Tryz.prog 92:=enters Tryz.func92 rfl q0
theorem ao2:Enters Tryz.prog 143:=enters Tryz.func143 rfl q0
theorem ao3:Enters Tryz.prog 144:=enters Tryz.func144 rfl q0
theorem ao4:Enters Tryz.prog 146:=enters Tryz.func146 rfl q0
theorem ao5:Enters Tryz.prog 147:=enters Tryz.func147 rfl q0
end TKBldH
open TKBldH
set_option maxRecDepth 10000
def Cy (p:Pa):Bool:=decide (p.1.length=p.2.1.length)&&eT (-1) p.2.1&&p.2.2.2.all (λx=> !pN (p.1.length:Int) x)&&decide (p.2.2.1.length=p.2.2.2.length)&&Hm none p.2.2.1
def wV (p:Pa):Se:=(p.1,p.2.1,p.2.2.1,p.2.2.2.map pJ)
structure RZ (p:Pa):Prop where
 a:p.1.length<=1000000000
 b:p.2.1.length<=1000000000
 c:p.2.2.1.length<=1000000000
 d:p.2.2.2.length<=1000000000
 e:∀x∈p.2.2.2,Room x
theorem Kd {M:aJ} {p:Pa} {v0:Value} (w0:World) (hM:Lt M w0) (hv:RT.pa.V M w0 p v0) (hR:RZ p):
  Spec Tryz.prog 92 #[v0] w0 (λv w=>Step M w0 M w aA/\(Cy p=true->dv RT.se M w v (wV p))/\(Cy p=false->v= .pointer none)):=by
 have ir:=hM;obtain⟨hRa,hRb,hRc,hRd,hRe⟩:=hR;refine bF (args:=[_]) (fn:=Tryz.f92) Tryz.func92 G (n:=45) Tryz.ntmps92 ?_;have S:Step M w0 M w0 aA:=bz;refine T.aQ ?_;refine kB (A:=RT.pa) G G hM hv G (λu0 w1 dT s0 _=>?_);replace hM:=s0.lt hM;have:=S.size;replace S:=S.aw s0;refine Rg.bA G G (T.aQ ?_);refine aD (M:=M) (A:=RT.pa) (B:=(RT.int .i64).sl) bT G G iJ q0 (pa0) G G q0 W4 (by repeat (first|exact bH _ _|refine aZ (bI W4) ?_)) (λCS nE=>?_);refine bE (M:=M) ah G G G G G W4 (by repeat (first|exact bH _ _|refine aZ (bI W4) ?_)) (λCT py=>?_);replace py:((RT.int .i64).sl).V M _ p.1 CT:=py;refine bK ah G py G ?_;refine eA M I3 G (λAb NH amZ am0 lA s1_3=>?_);obtain⟨pz,Bq⟩:∃M',M'=ins M Ab:=⟨_,rfl⟩;rw[<-Bq]at s1_3;have lH:pz Ab:=by rw[Bq];exact .inl G
 change NH.heap[Ab]? =some (.cells #[.int .i64 0] _ _)at lA;replace dT:=dT.le q0 s1_3.le;replace hM:=s1_3.lt hM;have:=S.size;replace S:=S.aw s1_3;refine cF (M:=pz) I3 G G lA G (G) lH (λZV VY oJ=>?_);change ZV.heap[_]? =some (Obj.cells #[.int .i64 (p.1.length:Int)] _ _)at VY;have:=ae lA;replace lH:=(oJ.mem _ this).2 lH;replace dT:=dT.le q0 oJ.le;replace hM:=oJ.lt hM;have:=S.size;replace S:=S.trans oJ (λk hk h=>by have h:_=_:=h;subst h;first|(exfalso;omega)|(show _<=_;omega)|exact⟨by first|omega|assumption,(S.mem _ hk).1 ((oJ.mem _ (ae lA)).1 lH)⟩|exact .inl rfl|exact .inr rfl|exact .inr (.inl rfl)|exact .inr (.inr rfl)|exact .inr (.inr (.inl rfl))|exact rfl);have GN:=VY;clear lA;have lA:=GN;clear GN;refine ad (aI (T.aQ ?_));refine aD (M:=pz) (A:=RT.pa) (B:=(RT.int .i64).sl) bT G G iJ q0 (Vv) G G q0 W4 (by repeat (first|exact bH _ _|refine aZ (bI W4) ?_)) (λaAZ avN=>?_);refine bE (M:=pz) ah G G G G G W4 (by repeat (first|exact bH _ _|refine aZ (bI W4) ?_)) (λao6 R0=>?_);replace R0:((RT.int .i64).sl).V pz _ p.2.1 ao6:=R0;refine bK ah G R0 G (aV aq G G G lA G (bc (v':= .int .i64 (p.1.length:Int)) G (fH G G G (ab G G ?_))));refine aW (g:=16) G (λao7=>?_) (λao7=>?_)
 ·refine ao G G G G (ao G G G G (ao G G G G (ao G G G G (bm G G G (ad (kT G (T.aQ (Rg.bA G G (aT ?_)))))))))
  have eb:Cy p=false:=by
   unfold Cy
   first
   |(rw[decide_eq_false (show¬p.1.length=p.2.1.length by omega)];simp;done)
   |(simp[c2];done)
  exact aX rfl rfl ⟨S.back,λh=>by(rw[eb]at h;cases h),λ_=>rfl⟩
 ·have e12:p.1.length=p.2.1.length:=by omega
  refine ak G G ?_;refine aD (M:=pz) (A:=RT.pa) (B:=(RT.int .i64).sl) bT G G iJ q0 (Vv) G G q0 W4 (by repeat (first|exact bH _ _|refine aZ (bI W4) ?_)) (λaA0 avO=>?_);refine ak G G ?_;refine bE (M:=pz) ah G G G G G W4 (by repeat (first|exact bH _ _|refine aZ (bI W4) ?_)) (λao8 R1=>?_);replace R1:((RT.int .i64).sl).V pz _ p.2.1 ao8:=R1;refine ak G G ?_;refine a8 G G ao2 (N5 _ R1) (λr wc hc=>?_);obtain⟨rfl,rfl⟩:=hc;refine ak G G (kU G G (bc (v':= .bool (decide (¬eT (-1) p.2.1=true))) (by simp) (aM G G G (ad ?_))));refine bM G (λc2=>?_) (λc2=>?_)
  ·refine T.aQ (Rg.bA G G (aT ?_))
   have eb:Cy p=false:=by
    unfold Cy
    first
    |(rw[decide_eq_false (show¬p.1.length=p.2.1.length by omega)];simp;done)
    |(simp[c2];done)
   exact aX rfl rfl ⟨S.back,λh=>by(rw[eb]at h;cases h),λ_=>rfl⟩
  ·have er:eT (-1) p.2.1=true:=dj.1 c2;refine aR (T.aQ ?_);refine eA pz Hv G (λR2 Qj aA1 aA2 Gy nv=>?_);obtain⟨Md,R3⟩:∃M',M'=ins pz R2:=⟨_,rfl⟩;rw[<-R3]at nv;have abh:Md R2:=by rw[R3];exact .inl G
   change Qj.heap[R2]? =some (.cells #[.slice none 0 0] _ _)at Gy;have:=ae lA;replace lH:=(nv.mem _ this).2 lH;replace lA:=nv.aP lA;replace dT:=dT.le q0 nv.le;replace hM:=nv.lt hM;have:=S.size;replace S:=S.aw nv;refine ad (T.aQ (l2 (xs:=[]) (ys:=[.tmp 4,.tmp 3]) G G G (Rg.bA G G (aI (T.aQ ?_)))));refine aD (M:=Md) (A:=RT.pa) (B:=((RT.po).sl).sl) bT G G tU q0 (XS) G G q0 W4 (by repeat (first|exact bH _ _|refine aZ (bI W4) ?_)) (λafj QE=>?_);refine bE (M:=Md) cH G G G G G W4 (by repeat (first|exact bH _ _|refine aZ (bI W4) ?_)) (λaah Br=>?_);replace Br:(((RT.po).sl).sl).V Md _ p.2.2.2 aah:=Br;refine ab G G ?_;refine a8 G G ao4 (C2 (cap:=[.pointer (some ⟨R2,0,none⟩),.pointer (some ⟨Ab,0,none⟩)]) (B:=w0.heap.size) (J:=C3 R2 Ab (p.1.length:Int) p.2.2.2 w0.heap.size) (bad:=pN (p.1.length:Int)) _ hM Br ao3 ⟨_,Gy,abh,by omega,lA,lH,dh _ _ _ _ _⟩ (λi M w M' w' h s=>h.aE s) (λi M w x vx hJ hM hx uV=>RY w hM (by obtain⟨_,h1,_,h2,_⟩:=hJ;have:=ae h1;omega) hJ hx uV (hRe x (au hx)) (by have:=(aj.1 hx).1;omega))) (λr6 w6 hc=>?_);obtain⟨M6,k6,rfl,hk6,N6,s6,hk7,hk8⟩:=hc;replace dT:=dT.le q0 s6.le;replace S:=S.ot s6 (aN _);refine ad ?_;refine bM G (λc6=>?_) (λc6=>?_)
   ·obtain⟨x6,hx6,tS⟩:=hk8 c6
    have eb:Cy p=false:=by
     unfold Cy;have:p.2.2.2.all (λx=> !pN (p.1.length:Int) x)=false:=List.all_eq_false.2 ⟨x6,hx6,by simp[tS]⟩;simp[this]
    refine T.aQ (Rg.bA G G (aT ?_));exact aX rfl rfl ⟨S.back,λh=>by(rw[eb]at h;cases h),λ_=>rfl⟩
   ·refine aR (T.aQ ?_);obtain⟨tS,⟨vl,gl,_,_,_,_,dR⟩⟩:=hk7 k3;rw[aL (aN _)]at dR;have iN:(((RT.li).ptr).sl).V M w6 (p.2.2.2.map pJ) vl:=dR.close ir S a03;replace dT:dv RT.pa M w6 u0 p:=dT.le q0 (CC ir S);replace S:=S.back;replace hM:=S.lt ir;refine aD (A:=RT.pa) (B:=RT.str.sl) bT G G qM q0 pa2 G G q0 dT bY (λaA6 avP=>?_);refine bE (M:=M) az G G G G G W4 (by repeat (first|exact bH _ _|refine aZ (bI W4) ?_)) (λao9 R4=>?_);replace R4:(RT.str.sl).V M _ p.2.2.1 ao9:=R4;refine aV eZ G G G gl G (bc (v':=vl) G ?_);refine a8 G G ao5 (J2 _ hM R4 iN k3 a03) (λr8 w8 hc=>?_);obtain⟨pd,rfl,Uw,s8⟩:=hc;replace dT:=dT.le q0 s8.le;replace iN:=iN.le s8.le;replace gl:=s8.aP gl;replace hM:=s8.lt hM;have:=S.size;replace S:=S.aw s8;refine ab G G (cq G G G (cq G G G (aB G G (Rg.bA G G (aI (T.aQ (ab G G (fH G G G (ad ?_)))))))));refine bM G (λc9=>?_) (λc9=>?_)
    ·have eb:Cy p=false:=by
      by_cases h:Cy p=true
      ·unfold Cy at h;simp only[cv,decide_eq_true_eq]at h;exact absurd (by rw[if_pos ⟨by simp[h.1.2],h.2⟩]) c9
      ·simpa using h
     refine T.aQ (Rg.bA G G (aT ?_));exact aX rfl rfl ⟨S.back,λh=>by(rw[eb]at h;cases h),λ_=>rfl⟩
    ·have e9:(p.2.2.1.length=(p.2.2.2.map pJ).length/\Hm none p.2.2.1=true):=by
      by_cases h:(p.2.2.1.length=(p.2.2.2.map pJ).length/\Hm none p.2.2.1=true)
      ·exact h
      ·exact absurd (by rw[if_neg h];decide) c9
     replace Uw:=Uw e9.1 e9.2;refine aR (aI ?_);apply T.Gc [0,1,3,4,6,2,5,7,8,9] 5 [2,3,4] 2 aA mixed
     ·simp+decide only[zY,tx,fe,je,gV,gX,fg,dA,gI,lN,cond_true,cond_false,Nat.reduceBEq,Nat.reduceAdd,beq_self_eq_true];rfl
     ·rfl
     ·rfl
     ·rfl
     ·rfl
     ·rfl
     ·rfl
     intro EX EY;have gO:=EY M;replace dT:=dT.le q0 gO.le;replace iN:=iN.le gO.le;replace gl:=gO.aP gl;replace hM:=gO.lt hM;have:=S.size;replace S:=S.aw gO;refine aD (M:=M) (A:=RT.pa) (B:=(RT.int .i64).sl) bT G G iJ q0 (pa0) G G q0 W4 (by repeat (first|exact bH _ _|refine aZ (bI W4) ?_)) (λXL QH=>?_);refine Rg.bL ?_;refine bE (M:=M) ah G G G G G W4 (by repeat (first|exact bH _ _|refine aZ (bI W4) ?_)) (λagF Ke=>?_);replace Ke:((RT.int .i64).sl).V M _ p.1 agF:=Ke;refine Rg.bL ?_;refine aD (M:=M) (A:=RT.pa) (B:=(RT.int .i64).sl) bT G G iJ q0 (Vv) G G q0 W4 (by repeat (first|exact bH _ _|refine aZ (bI W4) ?_)) (λavQ abi=>?_);refine Rg.bL ?_;refine bE (M:=M) ah G G G G G W4 (by repeat (first|exact bH _ _|refine aZ (bI W4) ?_)) (λagG rI=>?_);replace rI:((RT.int .i64).sl).V M _ p.2.1 agG:=rI;refine Rg.bL (ab G G (Rg.bL (dD ?_)));obtain⟨bb,oo,cs,ee,fr,rfl,lx,_⟩:=abi.float;refine ⟨eQ ⟨fk bT G iJ q0,⟨dQ G lx (λh=>h),⟨ey,trivial⟩⟩⟩,?_⟩;have kp:=fq aA EX;refine a8 G G VL (tR hM Ke k3) (λv5 w5 hc=>?_);obtain⟨tg,s5⟩:=hc;replace rI:=rI.le s5.le;replace Uw:=(Uw.le q0 gO.le).le q0 s5.le;replace dT:=dT.le q0 s5.le;replace iN:=iN.le s5.le;replace gl:=s5.aP gl;replace hM:=s5.lt hM;have:=S.size;replace S:=S.aw s5;refine(fun(kp:eB _ _ _)=>ad ⟨G,G,λ_=>kp,?_⟩) a00
     refine a8 G G VL (tR hM rI k3) (λv6 w6' hc=>?_);obtain⟨wz,Yc⟩:=hc;replace dT:=dT.le q0 Yc.le;replace iN:=iN.le Yc.le;replace tg:=tg.le Yc.le;replace rI:=rI.le Yc.le;replace Uw:=Uw.le q0 Yc.le;replace gl:=Yc.aP gl;replace hM:=Yc.lt hM;have:=S.size;replace S:=S.aw Yc;refine(fun(kp:eB _ _ _)=>ad ⟨G,G,λ_=>kp,?_⟩) a00;refine ie (places:=[(0,1),(1,1),(2,1)]) j3 ao0 ao1 rfl ⟨_,_,rfl,rfl,_,_,rfl,rfl,_,_,rfl,rfl,rfl⟩ (out:=[_,_,_]) ⟨0,[_],rfl,jo tg,by simp[Value.cells],1,[_],rfl,jo wz,by simp[Value.cells],2,[_],rfl,yL Uw,by simp[Value.cells],rfl⟩ (ad ⟨rfl,rfl,λh=>absurd rfl h,?_⟩);refine kB (A:=RT.se) (a:=wV p) G G hM (anq (x:=wV p) tg wz Uw) G (λu8 w8' hu8 VZ _=>?_);replace dT:=dT.le q0 VZ.le;replace iN:=iN.le VZ.le;replace tg:=tg.le VZ.le;replace rI:=rI.le VZ.le;replace Uw:=Uw.le q0 VZ.le;replace wz:=wz.le VZ.le;replace gl:=VZ.aP gl;replace hM:=VZ.lt hM;have:=S.size;replace S:=S.aw VZ;refine ad ⟨G,G,λh=>absurd G h,aB G G (ad ⟨G,G,λh=>absurd G h,iu (aT ?_)⟩)⟩
     have eb:Cy p=true:=by
      unfold Cy;rw[decide_eq_true e12,er,e9.2,decide_eq_true (by simpa using e9.1),gM.2 (λx hx=>by simp[tS x hx])];rfl
     exact aX rfl rfl ⟨S.back,λ_=>hu8,λh=>by(rw[eb]at h;cases h)⟩
theorem BN {M:aJ} {p:Pa} {v0:Value} (w0:World) (hM:Lt M w0) (hv:RT.pa.V M w0 p v0) (hR:RZ p):
  Spec Tryz.prog 43 #[v0] w0 (λv w=>Step M w0 M w aA/\(Cy p=true->∃s,v= .tuple #[s,.int .i64 0]/\dv RT.se M w s (wV p))/\(Cy p=false->v= .tuple #[.pointer none,.int .i64 1])):=by
 refine bF (args:=[_]) (fn:=Tryz.f43) Tryz.func43 G (n:=10) Tryz.ntmps43 ?_;have S:Step M w0 M w0 aA:=bz;refine T.aQ ?_;refine kB (A:=RT.pa) G G hM hv G (λu0 w1 dT s0 _=>?_);replace hM:=s0.lt hM;have:=S.size;replace S:=S.aw s0;refine aB G G (Rg.bA G G (T.aQ ?_));refine cW (A:=RT.pa) bT G E4 q0 G G G dT bY (λv1 Cv=>?_);refine a8 G G E92 (Kd _ hM Cv hR) (λr1 w2 hc=>?_);obtain⟨s2,hok,kx⟩:=hc
 obtain⟨o1,ho1⟩:∃o,r1= .pointer o:=by
  cases h:Cy p with
  |true=>obtain⟨b,o,_,h1,_⟩:=hok h;exact⟨_,h1⟩
  |false=>exact⟨none,kx h⟩
 subst ho1;replace dT:=dT.le q0 s2.le;replace hM:=s2.lt hM;have:=S.size;replace S:=S.aw s2;refine Rg.bA G G (aI (T.aQ (ab G G (Rg.Xn kC G G G (ad ?_)))));refine bM G (λc2=>?_) (λc2=>?_)
 ·refine T.aQ (aB G G (Rg.bA G G (aT ?_)))
  have eb:Cy p=false:=by
   by_cases h:Cy p=true
   ·obtain⟨b,o,_,h1,_⟩:=hok h;rw[c2]at h1;cases h1
   ·simpa using h
  exact fA rfl rfl rfl ⟨S.back,λh=>by(rw[eb]at h;cases h),λ_=>rfl⟩
 ·refine aR (T.aQ (ab G G (aB G G (Rg.bA G G (aT ?_)))))
  have eb:Cy p=true:=by
   by_cases h:Cy p=true
   ·exact h
   ·have:=kx a69;simp at this;exact absurd this c2
  exact fA rfl rfl rfl ⟨S.back,λ_=>⟨_,rfl,hok eb⟩,λh=>by(rw[eb]at h;cases h)⟩
end Go.K
namespace Go.K
section
variable {P:Program} {r:Option Nat} {n:Nat} {L:Sl} {ds:List Deferred} {w:World} {K:Kt} {M:aJ} {F:List (Nat×aJ)}
def xK (l:List Oper) (m q d:Nat):Bool:=
 Nat.blt q m&&pq l [q] m ((l[m]?.map dn).getD [])&&l7 l (m+1)&&
 ((List.range' m (l.length-m)).all λj=>match l[j]? with
  |some o=>vZ o.op&&(!(asks l o).contains d||(dn o).contains q)
  |none=>true)
theorem zD {l:List Oper} {m q d:Nat} (h:xK l m q d=true):q<m/\pq l [q] m ((l[m]?.map dn).getD [])=true/\l7 l (m+1)=true/\∀j o,m<=j->l[j]? =some o->vZ o.op=true/\(d∈asks l o->q∈dn o):=by
 simp only[xK,cv,Nat.blt_eq]at h;obtain⟨⟨⟨h1,h2⟩,h3⟩,h4⟩:=h;refine ⟨h1,h2,h3,λj o hj ho=> ?_⟩;have eK:=(aj.1 ho).1;have:=gM.1 h4 j (List.mem_range'_1.2 ⟨hj,by omega⟩);rw[ho]at this;simp only[cv,lL,kb,ll]at this;refine ⟨this.1,λhd=> ?_⟩;rcases this.2 with h|h
 ·rw[<-Bool.not_eq_true,ll]at h;exact absurd hd h
 ·exact h
structure TJ (P:Program) (r:Option Nat) (n:Nat) (l:List Oper) (m q d:Nat) (c:Value) (L:Sl) (K:Kt) (ds:List Deferred) (D:Nat->Prop) (a:Act) (w:World) (p:Nat) (ac:Act) (Lp:Sl) (wq:World):Prop where
 p0:m<=p
 p1:p<=l.length
 dt:∀i,i<l.length->i≠q->(D i↔i<p)
 ag:j7 n ac Lp ds
 tr:pY P r n l.toArray aA wq K 0 (l.drop p) Lp ds w
 yes:D q->a=ac
 no: ¬D q->ac=a.put (some d) c/\∀t u,lk (l5 l q L) t=some u->a.tmps[t]? =some u
theorem put_comm (a:Act) {d:Nat} {e:Option Nat} (h:e≠some d) (c v:Value):(a.put (some d) c).put e v=(a.put e v).put (some d) c:=by
 cases e with
 |none=>rfl
 |some e=>
  have fG:e≠d:=λh'=>h (by rw[h'])
  simp only[Act.put];congr 1;apply Array.ext_getElem?;intro i;simp only[ei,Array.size_setIfInBounds];by_cases h1:e=i<;>by_cases h2:d=i<;>simp_all
theorem DW (a:Act) {d t:Nat} (c:Value) (h:t≠d):(a.put (some d) c).tmps[t]? =a.tmps[t]? :=by rw[jL,if_neg (λe=>h (by injection e with e;exact e.symm))]
theorem TJ.next {l:List Oper} {m q d:Nat} {c:Value} (dX:fB l 0=true) (hok:xK l m q d=true) {oq:Oper} (hq:l[q]? =some oq) (Kf:oq.dst=some d) (hqq:lC oq.op=true) (V0:oq.guard=none)
  (jf:∀(ρ:Operand->Value) w,(∀x u,ev (l5 l q L) x=some u->ρ x=u)->(execOp ρ oq).run P w= .ok (.value c) w)
  {Q:Exit->Act->World->Prop} {D:Nat->Prop} {a:Act} {w:World} {j:Nat} {o:Oper} {rest:List Nat} (ho:l[j]? =some o) (rU: ¬D j) (hp:∀k∈dn o,D k) {p:Nat} {ac:Act} {Lp:Sl} {wq:World} (hi:TJ P r n l m q d c L K ds D a w p ac Lp wq)
  (hk:∀a' w',(∃p ac Lp wq,TJ P r n l m q d c L K ds (λi=>i=j\/D i) a' w' p ac Lp wq)->wpOpsIn (FW r) 0 P l.toArray Q rest a' w'):wpOpsIn (FW r) 0 P l.toArray Q (j::rest) a w:=by
 obtain⟨hqm,_,AM,Ga⟩:=zD hok;have zi:=(aj.1 ho).1;by_cases hjq:j=q
 ·subst hjq;rw[hq]at ho;cases ho;obtain⟨Me,mY⟩:=hi.no rU;refine One.run (by simpa using hq) hqq (v:=c) ?_ (hk _ _ ⟨p,ac,Lp,wq,hi.p0,hi.p1,λi h1 h2=>⟨λh=>(hi.dt i h1 h2).1 (h.resolve_left h2),λh=> .inr ((hi.dt i h1 h2).2 h)⟩,hi.ag,hi.tr,λ_=>by rw[Me,Kf],λh=>absurd (.inl rfl) h⟩);unfold One;rw[if_pos (by simp[Region.wanted,V0])];refine jf a.eval w λx u hx=> ?_
  cases x with
  |tmp t=>simp only[ev]at hx;simp[Act.eval,mY t u hx]
  |const v=>simp only[ev]at hx;cases hx;rfl
  |global g=>simp only[ev]at hx;cases hx;rfl
  |func f=>simp only[ev]at hx;cases hx;rfl
 ·have hjp:j=p:=by
   have h1:p<=j:=by
    rcases cQ j p with h|h
    ·exact absurd ((hi.dt j zi hjq).2 h) rU
    ·exact h
   have:=hi.p0;rcases cQ m j with h|h
   ·have h2:=hp _ (mD AM (j:=j) k3 ho);have:=(hi.dt (j-1) k3 k3).1 h2;omega
   ·omega
  subst hjp;obtain⟨hto,hta⟩:=Ga j o hi.p0 ho;have Ej:o.dst≠some d:=λh=>hjq (iq dX ho hq h Kf)
  have FN:∀t∈asks l o,a.tmps[t]? =ac.tmps[t]? :=λt ht=>by
   by_cases hD:D q
   ·rw[hi.yes hD]
   ·rw[(hi.no hD).1,DW];rintro rfl;exact hD (hp q (hta ht))
  obtain⟨OP,F1⟩:=qe FN
  have hdf:a.defers=ac.defers:=by
   by_cases hD:D q
   ·rw[hi.yes hD]
   ·rw[(hi.no hD).1,put_defers]
  have zm:=hi.tr;rw[dV zi,(aj.1 ho).2]at zm;have h1:=Rg.run zm ac hi.ag;refine F9 aj6 hto OP F1 hdf h1 (λe a w ⟨_,_,_,he,_⟩=>he) (λv w' ⟨L',sK,hA,_,Lz,_,Zr⟩=>?_) (λd' w' ⟨L',sK,hA,_,Lz,_⟩=>?_)
  ·rw[Lz]at hA;refine hk _ _ ⟨j+1,ac.put o.dst v,L',wq,by have:=hi.p0;omega,by omega,λi h3 h4=>?_,hA,Zr,λh=>?_,λh=>?_⟩
   ·constructor
    ·rintro(h|h)
     ·omega
     ·have:=(hi.dt i h3 h4).1 h;omega
    ·intro h;rcases gH (show i<=j by omega)with h5|h5
     ·exact .inl h5
     ·exact .inr ((hi.dt i h3 h4).2 h5)
   ·rw[hi.yes (h.resolve_left (λe=>hjq e.symm))]
   ·have hD: ¬D q:=λh'=>h (.inr h')
    obtain⟨Me,mY⟩:=hi.no hD;refine ⟨by rw[Me,put_comm a Ej],λt u ht=> ?_⟩;obtain⟨h3,h4⟩:=lO (f:=mZ l q) ht;rw[jL,if_neg,mY t u ht];intro e;simp only[mZ,gM]at h3;have:=h3 o (au ho);simp only[e,beq_self_eq_true,Bool.not_true,Bool.false_or,ll]at this;exact hD (hp q this)
  ·have h3:=hA.defers;rw[put_defers,Lz]at h3;have h4:=congrArg List.length h3;rw[hi.ag.defers]at h4;simp at h4
theorem jt.abk {l:List Oper} {wd:World} (m q d:Nat) (c:Value) {oq:Oper} (F:List (Nat×aJ)) (S:List (cM M)) (Zn:S.length=m) (tq:Nat.blt m l.length=true) (dX:fB l 0=true) (hok:xK l m q d=true)
  (hq:l[q]? =some oq) (Kf:oq.dst=some d) (hqq:lC oq.op=true) (V0:oq.guard=none) (hS:S[q]? =some (cM.eq c)) (jf:∀(ρ:Operand->Value) w,(∀x u,ev (l5 l q L) x=some u->ρ x=u)->(execOp ρ oq).run P w= .ok (.value c) w)
  (qT:∀p∈F,∀b,p.2 b->M b) (hFq:∀p∈F,p.1≠q) (zk:AK F l S) (kD:ca P r n F wd l S ds L l S 0)
  (l6:∀w',Step M wd M w' (lg (F.map (·.2)))->iI w' (λacc=>pY P r n l.toArray aA w' K 0 (l.drop m) (acc++l5 l l.length L) ds w') l S []):jt P r n l L ds wd K:=by
 intro a0 ha;obtain⟨hqm,Pw,AM,Ga⟩:=zD hok;have agH:m<l.length:=by simpa[Nat.blt_eq]using tq
 have start:∀(D:Nat->Prop) a w,(∀i,i<m->i≠q->D i)->(∀i,m<=i->i<l.length->¬D i)->(∀i o,l[i]? =some o->D i->∀k∈dn o,D k)->Inv F S l wd L ds n (λi=>D i/\i<l.length) a w->∃p ac Lp wq,TJ P r n l m q d c L K ds D a w p ac Lp wq:=by
  intro D a w jr kx nr hi
  obtain⟨ac,Me⟩:∃ac,(D q->a=ac)/\(¬D q->ac=a.put (some d) c):=by
   by_cases hD:D q
   ·exact⟨a,λ_=>G,λh=>absurd hD h⟩
   ·exact⟨_,λh=>absurd h hD,λ_=>G⟩
  have hqn:d<n\/n<=d:=cQ d n
  have lu:n<=ac.tmps.size:=by
   by_cases hD:D q
   ·rw[<-Me.1 hD];exact hi.size
   ·rw[Me.2 hD,qc];exact hi.size
  have hdf:ac.defers=ds:=by
   by_cases hD:D q
   ·rw[<-Me.1 hD];exact hi.defers
   ·rw[Me.2 hD,put_defers];exact hi.defers
  have R5:∀t,t≠d->ac.tmps[t]? =a.tmps[t]? :=λt ht=>by
   by_cases hD:D q
   ·rw[<-Me.1 hD]
   ·rw[Me.2 hD,DW a c ht]
  have apb:d<a.tmps.size:=by
   have hg:=kD.take.get q oq (by rw[cY,Zn,if_pos hqm];exact hq);by_cases hD:D q
   ·obtain⟨v,h1,_⟩:=hi.done q oq (cM.eq c) d hq hS ⟨hD,by omega⟩ Kf;exact(Array.getElem?_eq_some_iff.1 h1).1
   ·refine Classical.byContradiction λkR=> ?_
    obtain⟨s,hs,agI⟩:=hg;rw[fh]at agI;rw[hS]at hs;cases hs
    have hpq:∀k∈dn oq,D k:=λk hk=>by
     have:=dI dX q oq hq k hk;exact jr k k3 k3
    have:=Inv.next (r:=r) (P:=P) hi dX zk qT (rest:=[]) (Q:=λ_ a' _=>n<=a'.tmps.size/\∃v,a'.tmps[d]? =some v) ⟨cM.eq c,hS,agI⟩ hq (λh=>hD h.1) (λk hk=>⟨hpq k hk,by have:=dI dX q oq hq k hk;omega⟩) (λa' w' jC=>by
     obtain⟨v,h1,_⟩:=jC.done q oq (cM.eq c) d hq hS (.inl rfl) Kf;exact⟨jC.size,v,h1⟩)
    have vY:One P r l.toArray w oq a c:=by
     unfold One;rw[if_pos (by simp[Region.wanted,V0])];refine jf a.eval w λx u hx=> ?_
     have mY:∀t u,lk (l5 l q L) t=some u->a.tmps[t]? =some u:=λt u ht=>by
      obtain⟨h3,h4⟩:=lO (f:=mZ l q) ht;refine hi.base t u h4 λi o ig FO he=> ?_
      simp only[mZ,gM]at h3;have:=h3 o (au ig);simp only[he,beq_self_eq_true,Bool.not_true,Bool.false_or,ll]at this;exact hD (nr i o ig FO.1 q this)
     cases x with
     |tmp t=>simp only[ev]at hx;simp[Act.eval,mY t u hx]
     |const v=>simp only[ev]at hx;cases hx;rfl
     |global g=>simp only[ev]at hx;cases hx;rfl
     |func f=>simp only[ev]at hx;cases hx;rfl
    simp only[wpOpsIn,ec,hq]at this;rw[if_pos (by simp[Region.wanted,V0])]at this;obtain⟨_,h2⟩:=this;unfold One at vY;rw[if_pos (by simp[Region.wanted,V0])]at vY;rw[Oper.semAt_eq _ _ _ (oz hqq),vY]at h2;rw[Oper.uponIn_value]at h2;obtain⟨_,v,h3⟩:=h2;rw[Kf]at h3;have:=(Array.getElem?_eq_some_iff.1 h3).1;simp[Act.put]at this;exact kR this
  have apc:∃v,ac.tmps[d]? =some v/\v=c:=by
   by_cases hD:D q
   ·rw[<-Me.1 hD];obtain⟨v,h1,h2⟩:=hi.done q oq (cM.eq c) d hq hS ⟨hD,by omega⟩ Kf;exact⟨v,h1,h2⟩
   ·refine⟨c,?_,G⟩;rw[Me.2 hD,jL,if_pos rfl];simp[ei,apb]
  have km:∀{i:Nat} {o:Oper},(l.take m)[i]? =some o->l[i]? =some o/\i<m:=λ{i o} h=>by
   rw[cY]at h
   split at h
   ·exact⟨h,by assumption⟩
   ·cases h
  have mi:Step M wd M w (lg (F.map (·.2))):=hi.step.eL (λb ⟨p,hp,hD,hb⟩=>gN.2 ⟨p.2,ck.2 ⟨p,hp,rfl⟩,hb⟩) (λb hb=>by
   obtain⟨N,hN,Nf⟩:=gN.1 hb;obtain⟨p,hp,rfl⟩:=ck.1 hN;exact qT p hp b Nf)
  have hE:=(l6 w mi).take;rw[Zn]at hE
  obtain⟨acc,h1,h2⟩:=iI.use (a:=ac) (l.take m) S [] (λi o s h1 h2 h3=>by
    obtain⟨h4,h5⟩:=km h1;by_cases Yd:i=q
    ·subst Yd;rw[hq]at h4;cases h4;rw[Kf]at h3;cases h3
    ·exact hi.fin i o s h4 h2 ⟨jr i h5 Yd,by omega⟩ h3)
   (λi o s e h1 h2 h3=>by
    obtain⟨h4,h5⟩:=km h1;by_cases Yd:i=q
    ·subst Yd;rw[hq]at h4;cases h4;rw[Kf]at h3;cases h3;rw[hS]at h2;cases h2;exact apc
    ·obtain⟨v,h6,h7⟩:=hi.done i o s e h4 h2 ⟨jr i h5 Yd,by omega⟩ h3;exact⟨v,by rw[R5 e (λhe=>Yd (iq dX h4 hq h3 (by rw[Kf,he])))];exact h6,h7⟩)
   (λt v h=>by simp[lk]at h) hE
  refine⟨m,ac,_,w,aN _,by omega,λi h3 h4=>⟨λh=>?_,λh=>jr i h h4⟩,⟨lu,hdf,λt v h=>?_⟩,h1,Me.1,λhD=>⟨Me.2 hD,λt u ht=>?_⟩⟩
  ·rcases cQ i m with h5|h5
   ·exact h5
   ·exact absurd h (kx i h5 h3)
  ·rcases nV h with h|h
   ·exact h2 t v h
   ·obtain⟨h3,h4⟩:=lO (f:=mZ l l.length) h
    have fG:∀(i:Nat) (o:Oper),l[i]? =some o->o.dst≠some t:=λi o ig he=>by
     simp only[mZ,gM]at h3;have:=h3 o (au ig);simp only[he,beq_self_eq_true,Bool.not_true,Bool.false_or,ll]at this;have h7:=dI dX i o ig _ this;have h8:=(aj.1 ig).1;omega
    rw[R5 t (λe=>fG q oq hq (by rw[Kf,e]))];exact hi.base t v h4 λi o ig _=>fG i o ig
  ·obtain⟨h3,h4⟩:=lO (f:=mZ l q) ht;refine hi.base t u h4 λi o ig FO he=> ?_
   simp only[mZ,gM]at h3;have:=h3 o (au ig);simp only[he,beq_self_eq_true,Bool.not_true,Bool.false_or,ll]at this;exact hD (nr i o ig FO.1 q this)
 refine⟨λD a w=>((∀i,m<=i->i<l.length->¬D i)/\Inv F S l wd L ds n (λi=>D i/\i<l.length) a w)\/∃p ac Lp wq,TJ P r n l m q d c L K ds D a w p ac Lp wq,λD D' a w hJ hD=>?_,λQ D a w j o rest hj ho rU hp nr hJ hk=>?_,λa w hJ=>?_,.inl ⟨λi _ _ h=>h,?_⟩⟩
 ·rcases hJ with⟨h1,h2⟩|⟨p,ac,Lp,wq,h⟩
  ·refine .inl ⟨λi h3 h4 h5=>h1 i h3 h4 ((hD i h4).1 h5),?_⟩;have:(λi=>D' i/\i<l.length)=λi=>D i/\i<l.length:=funext λi=>propext ⟨fun⟨h3,h4⟩=>⟨(hD i h4).1 h3,h4⟩,fun⟨h3,h4⟩=>⟨(hD i h4).2 h3,h4⟩⟩
   rw[this];exact h2
  ·exact .inr ⟨p,ac,Lp,wq,h.p0,h.p1,λi h3 h4=>(hD i h3).trans (h.dt i h3 h4),h.ag,h.tr,λh3=>h.yes ((hD q k3).1 h3),λh3=>h.no λh4=>h3 ((hD q k3).2 h4)⟩
 ·rcases hJ with⟨h1,h2⟩|⟨p,ac,Lp,wq,h⟩
  ·rcases cQ j m with Ds|Ds
   ·have hg:=kD.take.get j o (by rw[cY,Zn,if_pos Ds];exact ho);rw[fh]at hg;refine h2.next dX zk qT hg ho (λh=>rU h.1) (λk xf=>⟨hp k xf,by have:=dI dX j o ho k xf;omega⟩) λa' w' jC=>hk a' w' (.inl ⟨λi h3 h4 h5=>?_,?_⟩)
    ·rcases h5 with h5|h5
     ·omega
     ·exact h1 i h3 h4 h5
    ·have:(λi=>(i=j\/D i)/\i<l.length)=λi=>i=j\/D i/\i<l.length:=funext λi=>propext ⟨fun⟨h3,h4⟩=>h3.elim .inl λh=> .inr ⟨h,h4⟩,λh=>h.elim (λh=>⟨.inl h,by omega⟩) λh=>⟨.inr h.1,h.2⟩⟩
     rw[this];exact jC
   ·have apd:j=m:=by
     rcases cQ m j with h|h
     ·have:=hp _ (mD AM (j:=j) k3 ho);exact absurd this (h1 (j-1) k3 k3)
     ·omega
    subst apd;rw[ho]at Pw;obtain⟨p,ac,Lp,wq,h⟩:=start D a w (λi hi Yd=>pv (D:=D) nr j (dn o) Pw hp i hi (by simpa using Yd)) h1 nr h2;exact h.next dX hok hq Kf hqq V0 jf ho rU hp λa' w' h'=>hk a' w' (.inr h')
  ·exact h.next dX hok hq Kf hqq V0 jf ho rU hp λa' w' h'=>hk a' w' (.inr h')
 ·rcases hJ with⟨h1,_⟩|⟨p,ac,Lp,wq,h⟩
  ·exact absurd agH (h1 m (aN _) agH)
  ·have uQ:p=l.length:=by
    rcases cQ p l.length with h3|h3
    ·have h4:=(h.dt p h3 (by have:=h.p0;omega)).1 h3;omega
    ·have:=h.p1;omega
   have zm:=h.tr;rw[uQ,List.drop_length]at zm;exact⟨Lp,ds,by rw[h.yes (by show q<l.length;omega)];exact h.ag,zm⟩
 ·refine⟨(Step.refl M wd).eL a42 (λb ⟨p,hp,_,hb⟩=>qT p hp b hb),λi o s _ _ h=>h.1.elim,ha.size,ha.defers,λi o s e _ _ h=>h.1.elim,λt v h _=>ha.at_ t v h,λi o _ h=>h.1.elim⟩
theorem T.Ye {id:Nat} {l l':List Oper} (π:List Nat) (m q d:Nat) (c:Value) {oq:Oper} (F:List (Nat×aJ)) (S:List (cM M)) (hm:P.follows .mixedOrders=true) (I6:zY π l=l') (vv:fB l 0=true) (hπ:nt π l.length=true) (Zn:S.length=m) (tq:Nat.blt m l'.length=true) (dX:fB l' 0=true) (hok:xK l' m q d=true)
  (hq:l'[q]? =some oq) (Kf:oq.dst=some d) (hqq:lC oq.op=true) (V0:oq.guard=none) (hS:S[q]? =some (cM.eq c)) (jf:∀(ρ:Operand->Value) w,(∀x u,ev (l5 l' q L) x=some u->ρ x=u)->(execOp ρ oq).run P w= .ok (.value c) w)
  (qT:∀p∈F,∀b,p.2 b->M b) (hFq:∀p∈F,p.1≠q) (zk:AK F l' S)
  (h:∀wD,(∀M,Step M w M wD aA)->ca P r n F wD l' S ds L l' S 0/\∀w',Step M wD M w' (lg (F.map (·.2)))->iI w' (λacc=>pY P r n l'.toArray aA w' K 0 (l'.drop m) (acc++l5 l' l'.length L) ds w') l' S []):T P r n (.region id l.toArray true) L ds w K:=by
 subst I6;exact jt.t hm vv λwD hD=> .perm π hπ vv (.abk m q d c F S Zn tq dX hok hq Kf hqq V0 hS jf qT hFq zk (h wD hD).1 (h wD hD).2)
theorem BO {s:TypeId} {fs:Array Field} {fd:Field} {j size o o' b:Nat} {zv:Value} {bytes:Nat} {x:Operand} {dst:Option Tmp} {ty:TypeId} {pos:String} {af:Array Edge} {gd:Option (Nat×Bool)} (hu:P.underlying s=some (.struct fs)) (Ph:fs[j]? =some fd) (ho:o+fd.offset=o') (hi:TI P fd.type zv size bytes) (hs:size≠0)
  {ρ:Operand->Value} (hx:ρ x= .pointer (some ⟨b,o,none⟩)) (w:World):(execOp ρ {dst,op:= .fieldAddr s x j,type:=ty,pos,after:=af,guard:=gd}).run P w= .ok (.value (.pointer (some ⟨b,o',none⟩))) w:=by
 simp only[execOp,hx];simp[Instr.fieldAt,run_underlying hu,Ph,Instr.sureAddr,fieldPlace,hi.sizeOf,hs,<-ho,zL]
end
open Go.Proofs
set_option maxRecDepth 10000
def pB:Int->List En->Int
 |last,[]=>last
 |_,e::L=>pB e.2 L
def wW:Int->List En->Bool
 |_,[]=>true
 |last,e::L=>decide (pf last e=0)&&wW e.2 L
theorem R6:∀{L:List En} {last:Int} {i:Nat} {e:En},wW last L=true->L[i]? =some e->pf (pB last (L.take i)) e=0/\pB last (L.take (i+1))=e.2
 |[],_,_,_,_,h=>by simp at h
 |x::L,last,0,e,h,hi=>by
  simp only[wW,cv,decide_eq_true_eq]at h;simp at hi;subst hi;exact⟨by simpa[pB]using h.1,by simp[pB]⟩
 |x::L,last,i+1,e,h,hi=>by
  simp only[wW,cv,decide_eq_true_eq]at h;have:=R6 h.2 af3;simpa[pB]using this
theorem yN {last:Int} {e:En} (h:pf last e=0):ky e.1/\last<e.2:=by
 unfold pf at h
 split at h
 ·rename_i h1;exact absurd h h1
 ·rename_i h1
  split at h
  ·cases h
  ·exact⟨L0 an9,by omega⟩
theorem jQ:∀{L:List En} {last:Int},wW last L=true->∀e∈L,ky e.1
 |[],_,_,e,h=>by cases h
 |x::L,last,h,e,he=>by
  simp only[wW,cv,decide_eq_true_eq]at h;rcases cR.1 he with rfl|he
  ·exact(yN h.1).1
  ·exact jQ h.2 e he
theorem DX:∀{L:List En} {last:Int},wW last L=true->eT last (L.map (·.2))=true
 |[],_,_=>rfl
 |x::L,last,h=>by
  simp only[wW,cv,decide_eq_true_eq]at h;simp only[fe,eT,cv,decide_eq_true_eq];exact⟨(yN h.1).2,DX h.2⟩
def fa (L:List En):Pa:=(L.map (·.1.1),L.map (·.2),keysOf L,(keysOf L).map (pk L))
theorem N9 {x:List Po} (h:x≠[]):∃p∈x,Hw x=p.1:=by
 unfold Hw
 cases hl:x.getLast? with
 |none=>exact absurd (List.getLast?_eq_none_iff.1 hl) h
 |some p=>exact⟨p,List.mem_of_getLast? hl,rfl⟩
theorem R7 {L:List En} (h:wW (-1) L=true) (hn:L.length<=1000000):Cy (fa L)=true:=by
 have hF:=jQ h;have h1:(keysOf L).map (pk L)=(fa L).2.2.2:=rfl;unfold Cy;have e1:decide ((fa L).1.length=(fa L).2.1.length)=true:=by simp[fa]
 have e2:eT (-1) (fa L).2.1=true:=DX h;have e3:decide ((fa L).2.2.1.length=(fa L).2.2.2.length)=true:=by simp[fa]
 have e4:Hm none (fa L).2.2.1=true:=aaR (lD L)
 have e5:(fa L).2.2.2.all (λx=> !pN ((fa L).1.length:Int) x)=true:=by
  refine gM.2 λx hx=> ?_
  rw[<-h1]at hx;obtain⟨k,hk,rfl⟩:=ck.1 hx;have fG:pk L k≠[]:=JU 0 (ka.1 hk)
  have ape:(pk L k).isEmpty=false:=by
   cases h:pk L k with
   |nil=>exact absurd h fG
   |cons a b=>rfl
  have pg:ik (-1) (pk L k)=true:=xG k L 0 (-1) hF k3 k3;obtain⟨p,hp,hl⟩:=N9 fG;have:=(mJ k L 0 hF).2 p hp;have hlen:((fa L).1.length:Int)=L.length:=by simp[fa]
  simp only[pN,pg,ape,hlen,hl];rw[decide_eq_false k3];rfl
 rw[e1,e2,e3,e4,e5];rfl
theorem V1 {L:List En} (hF:∀e∈L,ky e.1) (hn:L.length<=1000000) (k:List UInt8):Room (pk L k):=by
 have h1:=mJ k L 0 hF;have pg:ik (-1) (pk L k)=true:=xG k L 0 (-1) hF k3 k3;have l4:∀p∈pk L k,p.2.length<=500:=λp hp=>(h1.2 p hp).2.2
 obtain⟨h2,h3⟩:=yI (pk L k) (-1) 500 k3 pg l4 k3;have hl:(pk L k).length<=L.length:=h1.1;exact⟨λp hp=>by have:=l4 p hp;omega,by omega,by omega,by omega⟩
theorem Mf {L:List En} (hF:∀e∈L,ky e.1) (hn:L.length<=1000000):RZ (fa L):=by
 have hk:(keysOf L).length<=500000000:=by
  have h1:=(lD L).nodup.length_le_of_subset (l₂:=jb L) (λx hx=>ka.1 hx);have:=mK hF;omega
 refine ⟨by simp[fa];omega,by simp[fa];omega,by simp only[fa];omega,by simp[fa];omega,λx hx=> ?_⟩;obtain⟨k,_,rfl⟩:=ck.1 hx;exact V1 hF hn k
theorem abl {M:aJ} {w:World} {e:En} {v:Value} (h:RT.en.V M w e v):(-9223372036854775808<=e.1.1/\e.1.1<=9223372036854775807)/\ -9223372036854775808<=e.2/\e.2<=9223372036854775807:=by
 obtain⟨vs,⟨va,vb,_,⟨vc,vd,_,⟨_,h1⟩,_⟩,⟨_,h2⟩⟩,_⟩:=h;exact⟨h1,h2⟩
def ZP (B b:Nat) (vi vs:Value):aJ:=λk=>B<=k/\k≠b/\vi.ownBlock≠some k/\vs.ownBlock≠some k
theorem Own.Yf {κ:IntKind} {e:TypeId} {M M' N:aJ} {w w':World} {base:Nat} {v:Value} {xs:List Int} (h:Own (RT.int κ) e (o9 v) w base v xs) (s:Step M w M' w' N) (hn:∀c,v.ownBlock=some c->¬N c):Own (RT.int κ) e (o9 v) w' base v xs:=
 ((h.UY (M':=allM) (λ_ _=>trivial)).aey s.all hn).lone
theorem Step.agJ {M M' N:aJ} {w w':World} (s:Step M w M' w' N) {v:Value} (hv:∀b,v.ownBlock=some b->b<w'.heap.size/\(w.heap.size<=b\/M' b)):Step M w (ji M' v) w' N:=
 ⟨λh k hk=>hk.elim (λh1=>(hv k h1).1) (λh1=>s.lt h k h1),s.os,s.tape,s.output,s.size,λk hk=>⟨λh=>by
  rcases h with h|h
  ·rcases(hv k h).2 with h1|h1
   ·omega
   ·exact(s.mem k hk).1 h1
  ·exact(s.mem k hk).1 h,λh=> .inr ((s.mem k hk).2 h)⟩,s.same,s.sub⟩
namespace TKSegA
theorem agK:Enters Tryz.prog 104:=enters Tryz.func104 rfl q0
theorem abm:Enters Tryz.prog 116:=enters Tryz.func116 rfl q0
end TKSegA
open TKSegA
set_option maxRecDepth 10000
def Oa (xs:List Int) (i:Int):Int:=if 0<=i/\i<xs.length then xs.getD i.toNat 0 else-1
theorem R8 {xs:List Int} {i:Nat} {x:Int} (h:xs[i]? =some x):Oa xs i=x:=by
 have:=(aj.1 h).1;unfold Oa;rw[if_pos k3,an,ax,h];rfl
theorem Mh {M:aJ} {xs:List Int} {v0:Value} {i:Int} (w0:World) (hv:((RT.int .i64).sl).V M w0 xs v0):
  Spec Tryz.prog 104 #[v0,.int .i64 i] w0 (λv w=>v= .int .i64 (Oa xs i)/\w=w0):=by
 have hlen:=dZ hv;refine bF (args:=[_,_]) (fn:=Tryz.f104) Tryz.func104 G (n:=17) Tryz.ntmps104 (T.aQ (Rg.bA G G (aI (T.aQ (ab G G (ch G G G (ab G G ?_)))))));refine aW (g:=7) G (λjM=>?_) (λjM=>?_)
 ·refine ao G G G G (ao G G G G (ao G G G G (ao G G G G (bm G G G (ad (kT G (T.aQ (Rg.bA G G (aT ?_)))))))));have e:Oa xs i= -1:=by unfold Oa;rw[if_neg k3]
  exact aX rfl rfl ⟨by rw[e],rfl⟩
 ·refine ak G G (ab G G (ak G G (ab G G (ak G G (bK ah G hv G (ak G G (eP G G G (aM G G G (ad ?_)))))))));refine bM G (λc1=>?_) (λc1=>?_)
  ·refine T.aQ (Rg.bA G G (aT ?_));have e:Oa xs i= -1:=by unfold Oa;rw[if_neg k3]
   exact aX rfl rfl ⟨by rw[e],rfl⟩
  ·refine aR (T.aQ (ab G G (ab G G ?_)));refine bX ah I3 G G G hv bY k3 (λu x hg hu=>?_);refine bV aq G G hu bY (λk4=>?_);refine Rg.bA G G (aT ?_);have e:Oa xs i=x:=by unfold Oa;rw[if_pos k3,ax,hg];rfl
   exact aX rfl rfl ⟨by rw[e],rfl⟩
theorem DY {M:aJ} {s:Se} {v0:Value} (w0:World) (hs:dv RT.se M w0 v0 s):
  Spec Tryz.prog 34 #[v0] w0 (λv w=>v= .int .i64 (s.1.length:Int)/\w=w0):=by
 refine bF (args:=[_]) (fn:=Tryz.f34) Tryz.func34 G (n:=8) Tryz.ntmps34 (T.aQ (Rg.bA G G (T.aQ (ab G G (cu G hs.iZ G ?_)))));refine aD (A:=RT.se) (B:=(RT.int .i64).sl) j3 G G iJ q0 se0 G G q0 hs bY (λJW qu=>?_);refine bE ah G G G G G qu bY (λOb so=>?_);replace so:((RT.int .i64).sl).V M _ s.1 Ob:=so;refine bK ah G so G (Rg.bA G G (aT ?_));exact aj9
theorem R9 {M:aJ} {s:Se} {i:Int} {v0:Value} (w0:World) (hs:dv RT.se M w0 v0 s):
  Spec Tryz.prog 60 #[v0,.int .i64 i] w0 (λv w=>v= .int .i64 (Oa s.1 i)/\w=w0):=by
 refine bF (args:=[_,_]) (fn:=Tryz.f60) Tryz.func60 G (n:=11) Tryz.ntmps60 (T.aQ (Rg.bA G G (T.aQ (ab G G (cu G hs.iZ G ?_)))));refine aD (A:=RT.se) (B:=(RT.int .i64).sl) j3 G G iJ q0 se0 G G q0 hs bY (λJW qu=>?_);refine bE ah G G G G G qu bY (λOb so=>?_);replace so:((RT.int .i64).sl).V M _ s.1 Ob:=so;refine ab G G ?_;refine a8 G G agK (Mh _ so) (λr wc hc=>?_);obtain⟨rfl,rfl⟩:=hc;refine Rg.bA G G (aT ?_);exact aj9
theorem DZ {M:aJ} {s:Se} {i:Int} {v0:Value} (w0:World) (hs:dv RT.se M w0 v0 s):
  Spec Tryz.prog 58 #[v0,.int .i64 i] w0 (λv w=>v= .int .i64 (Oa s.2.1 i)/\w=w0):=by
 refine bF (args:=[_,_]) (fn:=Tryz.f58) Tryz.func58 G (n:=11) Tryz.ntmps58 (T.aQ (Rg.bA G G (T.aQ (ab G G (cu G hs.iZ G ?_)))));refine aD (A:=RT.se) (B:=(RT.int .i64).sl) j3 G G iJ q0 se1 G G q0 hs bY (λJW qu=>?_);refine bE ah G G G G G qu bY (λOb so=>?_);replace so:((RT.int .i64).sl).V M _ s.2.1 Ob:=so;refine ab G G ?_;refine a8 G G agK (Mh _ so) (λr wc hc=>?_);obtain⟨rfl,rfl⟩:=hc;refine Rg.bA G G (aT ?_);exact aj9
theorem BP {α:Type} {p:α->Bool}:∀{xs:List α} {i:Nat},i<=xs.length->(∀(k:Nat) x,k<i->xs[k]? =some x->p x=true)->(∀(k:Nat) x,i<=k->xs[k]? =some x->p x=false)->xs.countP p=i
 |[],i,hi,_,_=>by simp at hi;simp[hi]
 |x::xs,0,_,_,h2=>by
  rw[List.countP_eq_zero.2];intro a ha;obtain⟨k,hk⟩:=bQ.1 ha;simp[h2 k a (bC _) hk]
 |x::xs,i+1,hi,h1,h2=>by
  rw[List.countP_cons_of_pos (h1 0 x k3 rfl),BP af3 (λk y hk hy=>h1 (k+1) y k3 af4) (λk y hk hy=>h2 (k+1) y k3 af4)]
end Go.K
namespace Go.K
open Go.Proofs
namespace TKSegB
theorem Hv:TI Tryz.prog 196 (.slice none 0 0) 1 24:=by unfold TI;kernel_rfl
theorem apf:Enters Tryz.prog 125:=enters Tryz.func125 rfl q0
theorem apg:Enters Tryz.prog 181:=enters Tryz.func181 rfl q0
theorem aph:Enters Tryz.prog 182:=enters Tryz.func182 rfl q0
end TKSegB
open TKSegB
set_option maxRecDepth 10000
def O0 (ns:List (List UInt8)) (k:List UInt8):Nat:=ns.countP λx=>decide (x<k)
theorem agL {ns:List (List UInt8)} (h:CZ ns) {i j:Nat} {x y:List UInt8} (kS:i<=j) (hx:ns[i]? =some x) (hy:ns[j]? =some y): ¬y<x:=by
 rcases gH kS with rfl|h1
 ·rw[hx]at hy;cases hy;exact jw x
 ·exact jx (jP h hx hy h1)
theorem E5 {ns:List (List UInt8)} (h:CZ ns) {k:List UInt8}:(k∈ns->ns[O0 ns k]? =some k)/\∀x,ns[O0 ns k]? =some x->¬x<k:=by
 have key:∀{ns:List (List UInt8)},CZ ns->(k∈ns->ns[O0 ns k]? =some k)/\∀x,ns[O0 ns k]? =some x->¬x<k:=by
  intro ns
  induction ns with
  |nil=>exact λ_=>⟨(λh=>by cases h),λx h=>by simp at h⟩
  |cons y ns ih=>
   intro h;have h':=eV.1 h;by_cases hy:y<k
   ·have e:O0 (y::ns) k=O0 ns k+1:=by unfold O0;rw[List.countP_cons_of_pos af4]
    rw[e];simp only[List.getElem?_cons_succ];refine⟨λhk=>(ih h'.2).1 ?_,(ih h'.2).2⟩;rcases cR.1 hk with rfl|hk
    ·exact absurd hy (jw _)
    ·exact hk
   ·have jr:∀x∈ns,¬x<k:=λx hx eK=>hy (lS (h'.1 x hx) eK)
    have e:O0 (y::ns) k=0:=by
     unfold O0;rw[List.countP_eq_zero];intro a ha;rcases cR.1 ha with rfl|ha
     ·simpa using hy
     ·simpa using jr a ha
    rw[e];refine⟨λhk=>?_,λx hx=>by simp at hx;subst hx;exact hy⟩;rcases cR.1 hk with rfl|hk
    ·rfl
    ·exact absurd (h'.1 k hk) hy
 exact key h
def geN (ns:List (List UInt8)) (k:List UInt8) (i:Nat):Bool:=match ns[i]? with|some x=> !decide (x<k)|none=>true
theorem BQ {ns:List (List UInt8)} {k x:List UInt8} {i:Nat} (h:ns[i]? =some x):geN ns k i= !decide (x<k):=by unfold geN;rw[h]
theorem Sa {ns:List (List UInt8)} (h:CZ ns) {k:List UInt8}:ns[O0 ns k]? =some k↔k∈ns:=⟨λh=>au h,(E5 h).1⟩
theorem Kg {M:aJ} {n:Nat} {g:FuncId} {cap:List Value} {good:Nat->Bool} (w0:World) (hg:Enters Tryz.prog g) (Yg:∀i j,i<=j->j<n->good i=true->good j=true) (hn:n<=4611686018427387904) (ht:∀(i:Nat) w,i<n->Step M w0 M w aA->Spec Tryz.prog g ([.int .i64 (i:Int)]++cap:List Value).toArray w (λv w'=>v= .bool (good i)/\Step M w M w' aA)):
  Spec Tryz.prog 181 #[.int .i64 (n:Int),.func (.func g) #[] cap.toArray] w0 (λv w=>∃m:Nat,v= .int .i64 (m:Int)/\m<=n/\(∀i,i<m->good i=false)/\(∀i,m<=i->i<n->good i=true)/\Step M w0 M w aA):=by
 refine bF (args:=[_,_]) (fn:=Tryz.f181) Tryz.func181 G (n:=23) Tryz.ntmps181 (T.aQ (Rg.bA G G (T.aQ (Rg.bA G G (aI (aS ?_))))));refine dg (σ:=Nat×Nat) (λq=>[(0,.int .i64 (q.2:Int)),(1,.func (.func g) #[] cap.toArray),(5,.int .i64 (q.1:Int))]) (λq w=>Step M w0 M w aA/\q.1<=q.2/\q.2<=n/\(∀i,i<q.1->good i=false)/\(∀i,q.2<=i->i<n->good i=true)) (λq=>q.2-q.1) (0,n) a06 ?_ ?_
 ·exact⟨bz,bC _,aN _,λi h=>absurd h (tc _),λi h h'=>by omega⟩
 ·rintro⟨i,j⟩ w ⟨S,kS,hj,h1,h2⟩;dsimp only at kS hj h1 h2 ⊢;refine aI (T.aQ (ab G G (ab G G (ch G G G (ad ?_)))));refine bM G (λc2=>?_) (λc2=>?_)
  ·refine aR (aS (T.aQ (ab G G (ab G G (ab G G (fQ G G G k3 (Rg.zT G G G k3 (bG G G G k3 (bc (v':= .int .i64 ((i+(j-i)/2:Nat):Int)) (congrArg _ k3) (aB G G ?_))))))))));refine ad (T.aQ (ab G G (ab G G ?_)));refine CB (first:=[]) (captured:=cap) (xs:=[.tmp 17]) G G G hg (vs:=[.int .i64 ((i+(j-i)/2:Nat):Int)]) (ht (i+(j-i)/2) _ k3 S) (λr4 w4 hc=>?_);obtain⟨rfl,s4⟩:=hc;refine bc (v':= .bool (decide (good (i+(j-i)/2)=true))) (by simp) ?_;replace S:=S.aw s4;refine ad ?_;refine bM G (λc4=>?_) (λc4=>?_)
   ·refine aH (ab G G (Rg.bA G G ?_));refine⟨G,(i,i+(j-i)/2),a06,?_,?_⟩
    ·exact⟨S,by dsimp only;omega,by dsimp only;omega,h1,λk hk FR=>Yg _ _ hk FR c4⟩
    ·dsimp only;omega
   ·refine aH (ab G G (bG G G G k3 (Rg.bA G G ?_)));refine⟨G,(i+(j-i)/2+1,j),a06,?_,?_⟩
    ·exact⟨S,by dsimp only;omega,hj,λk hk=>by
      cases h:good k with
      |false=>rfl
      |true=>exact absurd (Yg k (i+(j-i)/2) (by dsimp only at hk;omega) k3 h) c4,h2⟩
    ·dsimp only;omega
  ·refine cO (T.aQ (ab G G (Rg.bA G G (aT ?_))));have e:i=j:=by omega
   subst e;exact aX G G ⟨i,G,hj,h1,h2,S⟩
theorem Hy {M:aJ} {d:Di} {v0:Value} {i bd bk:Nat} {k x:List UInt8} (w0:World) (hd:dv RT.di M w0 v0 d) (gd:w0.heap[bd]? =some (.cells #[v0] 139 (0,0))) (gk:w0.heap[bk]? =some (.cells #[sv k] 9 (0,0))) (hx:d.1[i]? =some x):
  Spec Tryz.prog 182 #[.int .i64 (i:Int),.pointer (some ⟨bd,0,none⟩),.pointer (some ⟨bk,0,none⟩)] w0 (λv w=>v= .bool (!decide (x<k))/\Step M w0 M w aA):=by
 have hM:True:=trivial;refine bF (args:=[_,_,_]) (fn:=Tryz.f182) Tryz.func182 G (n:=14) Tryz.ntmps182 (T.aQ (Rg.bA G G (aI ?_)));apply jU mixed rfl rfl;intro II Qe;have nZ:=Qe M;replace gd:=nZ.aP gd;replace gk:=nZ.aP gk;replace hd:=hd.le q0 nZ.le;refine aV iL G G G gd G (bc (v':=v0) G (Rg.bL (cu G hd.iZ G (Rg.bL ?_))));refine aD (A:=RT.di) (B:=RT.str.sl) lG G G qM q0 di0 G G q0 hd bY (λpn Oc=>?_);refine Rg.bL ?_;refine bE az G G G G G Oc bY (λvn qN=>?_);replace qN:(RT.str.sl).V M _ d.1 vn:=qN;refine Rg.bL (ab G G (Rg.bL ?_));have pX:=(aj.1 hx).1;refine bX az I9 G G G qN bY k3 (λu a hg hu=>?_);obtain rfl:x=a:=ar (hx.symm.trans (by simpa using hg));refine Rg.bL ?_;refine bE aG G G G G G hu bY (λvx uV=>?_);obtain rfl:=fp uV;refine Rg.bL (aV aG G G G gk G (bc (v':=sv k) G (Rg.bL (Rg.Q5 G G G (Rg.bL (aB G G (Rg.bL (dD (aT ?_)))))))));exact aX rfl rfl ⟨by rw[decide_not],nZ⟩
theorem Kh {M:aJ} {d:Di} {v0:Value} {k:List UInt8} (w0:World) (hM:Lt M w0) (hd:dv RT.di M w0 v0 d) (oc:CZ d.1):
  Spec Tryz.prog 125 #[v0,sv k] w0 (λv w=>v= .tuple #[.int .i64 (O0 d.1 k:Int),.bool (decide (k∈d.1))]/\Step M w0 M w aA):=by
 refine bF (args:=[_,_]) (fn:=Tryz.f125) Tryz.func125 G (n:=33) Tryz.ntmps125 ?_;have S:Step M w0 M w0 aA:=bz;refine T.aQ ?_;refine zO M G G (λj5 fw V2 V3 jV nz=>?_);replace jV:fw.heap[j5]? =some (.cells #[v0] 139 (0,0)):=by rw[yL hd]at jV;exact jV
 obtain⟨hY,tV⟩:∃M',M'=ins M j5:=⟨_,rfl⟩;rw[<-tV]at nz;have jF:hY j5:=by rw[tV];exact .inl G
 replace hd:=hd.le q0 nz.le;replace hM:=nz.lt hM;have:=S.size;replace S:=S.aw nz;refine zO hY G G (λrA JA aad aae iy pL=>?_);obtain⟨jO,oN⟩:∃M',M'=ins hY rA:=⟨_,rfl⟩;rw[<-oN]at pL;have gu:jO rA:=by rw[oN];exact .inl G
 change JA.heap[rA]? =some (.cells #[sv k] _ _)at iy;have:=ae jV;replace jF:=(pL.mem _ this).2 jF;replace jV:=pL.aP jV;replace hd:=hd.le q0 pL.le;replace hM:=pL.lt hM;have:=S.size;replace S:=S.aw pL;refine aB G G (Rg.bA G G (T.aQ (aV iL G G G jV G (bc (v':=v0) G (cu G hd.iZ G ?_)))));refine aD (A:=RT.di) (B:=RT.str.sl) lG G G qM q0 di0 G G q0 hd bY (λpn Oc=>?_);refine bE az G G G G G Oc bY (λvn qN=>?_);replace qN:(RT.str.sl).V jO _ d.1 vn:=qN;have hnl:=dZ qN;refine bK az G qN G (l2 (xs:=[]) (ys:=[.tmp 2,.tmp 3]) G G G ?_)
 refine a8 G G apg (Kg (M:=jO) (n:=d.1.length) (cap:=[.pointer (some ⟨j5,0,none⟩),.pointer (some ⟨rA,0,none⟩)]) (good:=geN d.1 k) _ aph (λi j kS hj h=>by
  have hi:=al (show i<d.1.length by omega);have AP:=al hj;rw[BQ hi]at h;rw[BQ AP];simp only[kb,decide_eq_false_iff_not]at h ⊢;intro eK;rcases kX d.1[i] d.1[j]with h1|h1|h1
  ·exact h (lS h1 eK)
  ·rw[h1]at h;exact h eK
  ·exact agL oc kS hi AP h1) k3 (λi w hi s=>by
  have hx:=al hi;rw[BQ hx];exact Hy w (hd.le q0 s.le) (s.aP jV) (s.aP iy) hx)) (λr1 w1 hc=>?_)
 obtain⟨m,rfl,hm,Mi,Sb,s1⟩:=hc;have em:O0 d.1 k=m:=BP hm (λi x hi hx=>by have:=Mi i hi;rw[BQ hx]at this;simpa using this) (λi x hi hx=>by have:=Sb i hi (aj.1 hx).1;rw[BQ hx]at this;simpa using this);have:=ae jV;replace jF:=(s1.mem _ this).2 jF;replace jV:=s1.aP jV;have:=ae iy;replace gu:=(s1.mem _ this).2 gu;replace iy:=s1.aP iy;replace hd:=hd.le q0 s1.le;replace hM:=s1.lt hM;have:=S.size;replace S:=S.aw s1;refine Rg.bA G G (aI ?_);apply jU mixed rfl rfl;intro wD2 sA2;have FT:=sA2 jO;have:=ae jV;replace jF:=(FT.mem _ this).2 jF;replace jV:=FT.aP jV;have:=ae iy;replace gu:=(FT.mem _ this).2 gu;replace iy:=FT.aP iy;replace hd:=hd.le q0 FT.le;replace hM:=FT.lt hM;have:=S.size;replace S:=S.aw FT;refine ab G G (Rg.bL (ab G G (Rg.bL (aV iL G G G jV G (bc (v':=v0) G (Rg.bL (cu G hd.iZ G (Rg.bL ?_))))))));refine aD (A:=RT.di) (B:=RT.str.sl) lG G G qM q0 di0 G G q0 hd bY (λpn2 apk=>?_);refine Rg.bL ?_;refine bE az G G G G G apk bY (λvn2 abn=>?_);replace abn:(RT.str.sl).V jO _ d.1 vn2:=abn;refine Rg.bL (bK az G abn G (Rg.bL (ch G G G (Rg.bL (ab G G (Rg.bL ?_))))));refine aW (g:=22) G (λapl=>?_) (λapl=>?_)
 ·refine ak G G (aV iL G G G jV G (bc (v':=v0) G (Rg.bL (ak G G (cu G hd.iZ G (Rg.bL (ak G G ?_)))))));refine aD (A:=RT.di) (B:=RT.str.sl) lG G G qM q0 di0 G G q0 hd bY (λpn3 apm=>?_);refine Rg.bL (ak G G ?_);refine bE az G G G G G apm bY (λvn3 abo=>?_);replace abo:(RT.str.sl).V jO _ d.1 vn3:=abo;refine Rg.bL (ak G G (ab G G (Rg.bL (ak G G ?_))));refine bX az I9 G G G abo bY k3 (λu2 x hg2 mu=>?_);rw[an]at hg2;refine Rg.bL (ak G G ?_);refine bE aG G G G G G mu bY (λvx uV=>?_);obtain rfl:=fp uV;refine Rg.bL (ak G G (aV aG G G G iy G (bc (v':=sv k) G (Rg.bL (ak G G (Rg.xa G G G (Rg.bL (bm G G G (Rg.bL (aB G G (Rg.bL ?_)))))))))));refine aB G G (Rg.bL (dD (aT ?_)));rw[<-em]at*
  first
  |(have e:decide (x=k)=decide (k∈d.1):=decide_eq_decide.2 (by rw[<-Sa oc,hg2];simp)
    exact fA rfl rfl rfl ⟨by rw[e],S.back⟩)
  |(have e:k∉d.1:=λh=>by have:=(E5 oc).1 h;have:=(aj.1 this).1;omega
    exact fA rfl rfl rfl ⟨by rw[decide_eq_false e],S.back⟩)
 ·refine ao G G G G (Rg.bL (ao G G G G (Rg.bL (ao G G G G (Rg.bL (ao G G G G (Rg.bL (ao G G G G (Rg.bL (ao G G G G (Rg.bL ?_)))))))))));refine ao G G G G (Rg.bL (ao G G G G (Rg.bL (ao G G G G (Rg.bL (aM G G G (Rg.bL (aB G G (Rg.bL (aB G G (Rg.bL ?_)))))))))));refine dD (aT ?_);rw[<-em]at*
  first
  |(have e:decide (x=k)=decide (k∈d.1):=decide_eq_decide.2 (by rw[<-Sa oc,hg2];simp)
    exact fA rfl rfl rfl ⟨by rw[e],S.back⟩)
  |(have e:k∉d.1:=λh=>by have:=(E5 oc).1 h;have:=(aj.1 this).1;omega
    exact fA rfl rfl rfl ⟨by rw[decide_eq_false e],S.back⟩)
theorem find_spec {M:aJ} {d:Di} {v0:Value} {k:List UInt8} (w0:World) (hM:Lt M w0) (hd:dv RT.di M w0 v0 d) (oc:CZ d.1) (hl:d.1.length=d.2.length):
  Spec Tryz.prog 79 #[v0,sv k] w0 (λv w=>Step M w0 M w aA/\((∃(j:Nat) (p:Value) (t:Li),v= .tuple #[p,.bool true]/\d.1[j]? =some k/\d.2[j]? =some t/\dv RT.li M w p t)\/(v= .tuple #[.pointer none,.bool false]/\k∉d.1))):=by
 refine bF (args:=[_,_]) (fn:=Tryz.f79) Tryz.func79 G (n:=25) Tryz.ntmps79 ?_;have S:Step M w0 M w0 aA:=bz;refine T.aQ (aB G G (Rg.bA G G (T.aQ (ab G G (ab G G ?_)))));refine a8 G G apf (Kh _ hM hd oc) (λr1 w1 hc=>?_);obtain⟨rfl,s1⟩:=hc;replace hd:=hd.le q0 s1.le;replace hM:=s1.lt hM;have:=S.size;replace S:=S.aw s1;refine ab G G (cq G G G (cq G G G (aB G G (Rg.bA G G (aI (T.aQ (ab G G (kU G G (bc (v':= .bool (decide (k∉d.1))) (by simp) ?_)))))))));refine ad ?_;refine bM G (λc2=>?_) (λc2=>?_)
 ·refine T.aQ (Rg.bA G G (T.aQ (ab G G (aB G G (Rg.bA G G (aT ?_))))));exact fA G G G ⟨S,.inr ⟨G,c2⟩⟩
 ·refine aR (T.aQ (ab G G (cu G hd.iZ G ?_)));refine aD (A:=RT.di) (B:=((RT.li).ptr).sl) lG G G Hv q0 di1 G G q0 hd bY (λpt hpt=>?_);refine bE eZ G G G G G hpt bY (λvt oT=>?_);replace oT:(((RT.li).ptr).sl).V M _ d.2 vt:=oT;refine ab G G ?_;have hk:=(E5 oc).1 (dj.1 c2);have AN:=(aj.1 hk).1;refine bX eZ CO G G G oT bY k3 (λu5 t NG Gv=>?_);rw[an]at NG;refine bE fY G G G G G Gv bY (λvp Mj=>?_);have apo:=oQ.1 Mj;refine aB G G (Rg.bA G G (aT ?_));exact fA G G G ⟨S,.inl ⟨_,_,t,G,hk,NG,apo⟩⟩
end Go.K
namespace Go.K
open Go.Proofs
namespace TKSegC
theorem Hv:TI Tryz.prog 196 (.slice none 0 0) 1 24:=by unfold TI;kernel_rfl
end TKSegC
open TKSegC
set_option maxRecDepth 10000
theorem BR {M:aJ} {d:Di} {vd:Value} {bi bd yl:Nat} {wv:World} {J:Nat->World->Prop} {Jx:World->Prop} (w0:World) (hd:dv RT.di M wv vd d) (hl:d.1.length=d.2.length) (mi:∀i w w',J i w->Step aA w aA w' aA->J i w') (L9:∀i w,J i w->w.heap[bi]? =some (.cells #[.int .i64 0] 3 (0,0))/\w.heap[bd]? =some (.cells #[vd] 139 (0,0))/\Le M wv M w) (hy:∀(i:Nat) (w:World) x t vt,J i w->d.1[i]? =some x->d.2[i]? =some t->dv RT.li M w vt t->zn Tryz.prog yl [sv x,vt].toArray w (λr w'=>∃b,r= .bool b/\(b=true->J (i+1) w')/\(b=false->Jx w'))) (h0:J 0 w0):
  Spec Tryz.prog 123 #[.func (.yield yl) #[] #[],.pointer (some ⟨bi,0,none⟩),.pointer (some ⟨bd,0,none⟩)] w0 (λ_ w=>J d.1.length w\/Jx w):=by
 refine bF (args:=[_,_,_]) (fn:=Tryz.f123) Tryz.func123 G (n:=33) Tryz.ntmps123 (T.aQ (aV aq G G G (L9 _ _ h0).1 G (bc (v':= .int .i64 0) G (Rg.max2 G G G (Rg.bA G G (aS ?_))))));refine dg (σ:=Nat) (λs=>[(0,.func (.yield yl) #[] #[]),(1,.pointer (some ⟨bi,0,none⟩)),(2,.pointer (some ⟨bd,0,none⟩)),(4,.int .i64 (s:Int))]) (λs w=>J s w/\s<=d.1.length) (λs=>d.1.length-s) 0 Y7 ?_ ?_
 ·exact⟨h0,bC _⟩
 ·rintro k w ⟨hJ,hk⟩;obtain⟨gi,gd,hle⟩:=L9 _ _ hJ;have hdl:d.1.length<=140737488355328:=by obtain⟨b,o,vs,_,_,⟨va,vb,_,⟨a,cap,_,_,h,_⟩,_⟩,_⟩:=hd;exact h
  refine aI (T.aQ (ab G G (aV iL G G G gd G (bc (v':=vd) G (cu G hd.iZ G ?_)))));refine aD (M:=M) (A:=RT.di) (B:=RT.str.sl) lG G G qM q0 di0 G G q0 hd hle (λpn Oc=>?_);refine bE az G G G G G Oc bY (λvn qN=>?_);replace qN:(RT.str.sl).V M _ d.1 vn:=qN;refine bK az G qN G (ch G G G (ad ?_));refine bM G (λc1=>?_) (λc1=>?_)
  ·refine aR (aI (aS (aI ?_)));apply T.AO 15 mixed rfl rfl rfl rfl rfl;intro wD3 Xu;have rX:=Xu M;refine ab G G (Rg.bL ?_);replace hJ:=mi _ _ _ hJ (Xu aA);clear gi gd hle;obtain⟨gi,gd,hle⟩:=L9 _ _ hJ;refine aV iL G G G gd G (bc (v':=vd) G (Rg.bL (cu G hd.iZ G (Rg.bL ?_))));refine aD (M:=M) (A:=RT.di) (B:=RT.str.sl) lG G G qM q0 di0 G G q0 hd hle (λpm FP=>?_);refine Rg.bL ?_;refine bE az G G G G G FP bY (λvm hvm=>?_);replace hvm:(RT.str.sl).V M _ d.1 vm:=hvm;refine Rg.bL (ab G G (Rg.bL ?_));refine bX az I9 G G G hvm bY k3 (λu3 x Us kA=>?_);rw[an]at Us;refine Rg.bL ?_;refine bE aG G G G G G kA bY (λvx uV=>?_);obtain rfl:=fp uV;refine Rg.bL (aV iL G G G gd G (bc (v':=vd) G (Rg.bL (cu G hd.iZ G (Rg.bL ?_)))));refine aD (M:=M) (A:=RT.di) (B:=((RT.li).ptr).sl) lG G G Hv q0 di1 G G q0 hd hle (λpt hpt=>?_);refine Rg.bL ?_;refine bE eZ G G G G G hpt bY (λvt oT=>?_);replace oT:(((RT.li).ptr).sl).V M _ d.2 vt:=oT;refine Rg.bL (ab G G (Rg.bL ?_));refine bX eZ CO G G G oT bY k3 (λu4 t zu IH=>?_);rw[an]at zu;refine Rg.bL ?_;refine bE fY G G G G G IH bY (λvp Mj=>?_);refine Rg.bL (dD ?_);refine Rg.yield G (vs:=[sv x,vp]) G G (hy k _ x t vp hJ Us zu (oQ.1 Mj)) (λr5 w5 h5=>?_);obtain⟨b,rfl,Xr,tS⟩:=h5;refine kU G G (bc (v':= .bool (decide (¬b=true))) (by simp) (ad ?_));refine bM G (λc3=>?_) (λc3=>?_)
   ·refine aT ?_;exact FX G (.inr (tS (by simpa using c3)))
   ·refine aR (aH (ab G G (bG G G G k3 (Rg.bA G G ?_))));refine⟨G,k+1,Y7,?_,?_⟩
    ·exact⟨Xr (dj.1 c3),by omega⟩
    ·omega
  ·refine cO ?_
   first|refine uN ?_|simp+decide only[tn,lf,if_true,if_false]|skip
   have e:k=d.1.length:=by omega
   subst e;exact iw G (.inl hJ)
theorem D0 {M:aJ} {d:Di} {vd:Value} (w0:World) (hM:Lt M w0) (hd:dv RT.di M w0 vd d):
  Spec Tryz.prog 77 #[vd,.int .i64 0] w0 (λv w=>∃bi bd,v= .func (.func 123) #[] [.pointer (some ⟨bi,0,none⟩),.pointer (some ⟨bd,0,none⟩)].toArray/\w.heap[bi]? =some (.cells #[.int .i64 0] 3 (0,0))/\w.heap[bd]? =some (.cells #[vd] 139 (0,0))/\w0.heap.size<=bi/\w0.heap.size<=bd/\Step M w0 M w aA):=by
 refine bF (args:=[_,_]) (fn:=Tryz.f77) Tryz.func77 G (n:=6) Tryz.ntmps77 (T.aQ ?_);refine zO M G G (λbd w1 p1 q1 g1 s1=>?_);rw[yL hd]at g1;replace s1:=s1.back;refine zO M G G (λbi w2 p2 q2 g2 s2=>?_);replace s2:=s2.back;replace g2:w2.heap[bi]? =some (.cells #[.int .i64 0] 3 (0,0)):=g2;refine Rg.bA G G (T.aQ (l2 (xs:=[]) (ys:=[.tmp 3,.tmp 2]) G G G (Rg.bA G G (aT ?_))));exact aX G G ⟨bi,bd,G,g2,s2.aP g1,by have:=s1.size;omega,p1,s1.aw s2⟩
end Go.K
namespace Go.K
open Go.Proofs
namespace TKSegD
theorem Hz:TI Tryz.prog 139 (.pointer none) 1 8:=by unfold TI;kernel_rfl
theorem E76:Enters Tryz.prog 76:=enters Tryz.func76 rfl q0
theorem E77:Enters Tryz.prog 77:=enters Tryz.func77 rfl q0
theorem abp:Enters Tryz.prog 123:=enters Tryz.func123 rfl q0
end TKSegD
open TKSegD
set_option maxRecDepth 10000
theorem Sd {M:aJ} {w:World} {xs:List (List UInt8)} {v:Value} (h:(RT.str.sl).V M w xs v):∀x∈xs,x.length<=140737488355328:=λx hx=>by
 obtain⟨a,cap,_,_,_,hs⟩:=jg.1 h;rcases hs with rfl|⟨b,o,_,_,he⟩
 ·cases hx
 ·obtain⟨i,hi⟩:=bQ.1 hx;obtain⟨vs,⟨_,h1⟩,_⟩:=he i x hi;exact h1
theorem Sf {M:aJ} {w:World} {v:Value} {d:Di} (h:dv RT.di M w v d):(∀x∈d.1,x.length<=140737488355328)/\d.1.length<=140737488355328:=by
 obtain⟨b,o,vs,_,_,⟨va,vb,_,h1,_⟩,_⟩:=h;have hv:(RT.str.sl).V M w d.1 ((RT.str.sl).val va):=⟨va,h1,rfl⟩;exact⟨Sd hv,dZ hv⟩
structure Si {α:Type} (A:RT α) (e T:TypeId) (M:aJ) (w0:World) (bo bi bd D:Nat) (vd:Value) (st:Loop) (vo:Value) (xs:List α) (M':aJ) (w:World):Prop where
 lt:Lt M' w
 S:Step M w0 M' w aA
 o:w.heap[bo]? =some (.cells #[vo] T (0,0))
 mo:M' bo
 r:w.heap[D+1]? =some (.loop st)
 mr:M' (D+1)
 d:w.heap[D]? =some (.deferred (some []))
 md:M' D
 own:Own A e M' w w0.heap.size vo xs
 gi:w.heap[bi]? =some (.cells #[.int .i64 0] 3 (0,0))
 gd:w.heap[bd]? =some (.cells #[vd] 139 (0,0))
 fi: ¬M' bi
 fd: ¬M' bd
 z:w0.heap.size<=bo/\w0.heap.size<=D
section
variable {α:Type} {A:RT α} {e T:TypeId} {M M1 M2 N:aJ} {w0 w w':World} {bo bi bd D:Nat} {vd:Value} {st:Loop} {vo:Value} {xs:List α}
theorem Si.aE (h:Si A e T M w0 bo bi bd D vd st vo xs M1 w) (s:Step M1 w M2 w' aA):Si A e T M w0 bo bi bd D vd st vo xs M2 w':=
 ⟨s.lt h.lt,h.S.aw s,s.aP h.o,(s.mem _ (ae h.o)).2 h.mo,s.aP h.r,(s.mem _ (ae h.r)).2 h.mr,s.aP h.d,(s.mem _ (ae h.d)).2 h.md,h.own.aE s,s.aP h.gi,s.aP h.gd,λhn=>h.fi ((s.mem _ (ae h.gi)).1 hn),λhn=>h.fd ((s.mem _ (ae h.gd)).1 hn),h.z⟩
theorem Si.oP {st':Loop} (h:Si A e T M w0 bo bi bd D vd st vo xs M1 w):Si A e T M w0 bo bi bd D vd st' vo xs M1 (w.putObj (D+1) (.loop st')):=by
 have s:Step M1 w M1 (w.putObj (D+1) (.loop st')) (λk=>k=D+1):=eO h.mr;obtain⟨z1,z2⟩:=h.z;refine⟨s.lt h.lt,h.S.cL s (λk (hk:k=D+1)=>by omega),s.keep h.o (fun(hn:bo=D+1)=>by have h1:=h.o;rw[hn,h.r]at h1;cases h1),h.mo,zP (ae h.r),h.mr,s.keep h.d (fun(hn:D=D+1)=>by omega),h.md,h.own.step s (λb hb (hn:b=D+1)=>?_),s.keep h.gi (fun(hn:bi=D+1)=>by have h1:=h.gi;rw[hn,h.r]at h1;cases h1),s.keep h.gd (fun(hn:bd=D+1)=>by have h1:=h.gd;rw[hn,h.r]at h1;cases h1),h.fi,h.fd,h.z⟩;obtain⟨cs,hc⟩:=h.own.isCells hb;rw[hn,h.r]at hc;cases hc
theorem Si.grow {Ki:Value} {Sj:List α} (hT:T≠e) (h:Si A e T M w0 bo bi bd D vd st vo xs M1 w) (s:Step M1 w M2 w' (gy vo)) (ho:Own A e M2 w' w0.heap.size Ki Sj):
  (w'.heap[bo]? =some (.cells #[vo] T (0,0))/\M2 bo)/\∀{w2:World},Step M2 w' M2 w2 (λk=>k=bo)->w2.heap[bo]? =some (.cells #[Ki] T (0,0))->Si A e T M w0 bo bi bd D vd st Ki Sj M2 w2:=by
 obtain⟨z1,z2⟩:=h.z
 have BS:∀{b:Nat} {o:Obj},w.heap[b]? =some o->(∀cs fr,o≠ .cells cs e fr)->¬gy vo b:=λ{b o} hb fG hn=>by
  obtain⟨⟨C,h1,_⟩,_⟩:=h.own;rcases h1.2 with h3|⟨g,cap,cur,h3,h4,h5,_⟩
  ·unfold gy at hn;rw[h3.1]at hn;cases hn
  ·unfold gy at hn;rw[h3]at hn;cases hn;rw[hb]at h5;exact fG _ _ (ar h5)
 have nM:∀{b:Nat},¬M1 b->¬gy vo b:=λhb hn=>hb (h.own.mut_ _ hn)
 have ig:=s.keep h.o (BS h.o (λcs fr hc=>by injection hc with _ h1 _;exact hT h1));have hr:=s.keep h.r (BS h.r (λcs fr hc=>by cases hc));have hd:=s.keep h.d (BS h.d (λcs fr hc=>by cases hc));have ke:=s.keep h.gi (nM h.fi);have px:=s.keep h.gd (nM h.fd);have V4: ¬M2 bi:=λhn=>h.fi ((s.mem _ (ae h.gi)).1 hn)
 have Ph: ¬M2 bd:=λhn=>h.fd ((s.mem _ (ae h.gd)).1 hn)
 have JQ:=(s.mem _ (ae h.o)).2 h.mo;refine⟨⟨ig,JQ⟩,λ{w2} s2 hx=>⟨s2.lt (s.lt h.lt),(h.S.cC s h.own (aN _)).cL s2 (λk (hk:k=bo)=>by omega),hx,JQ,s2.keep hr (fun(hn:D+1=bo)=>by rw[hn,ig]at hr;cases hr),(s.mem _ (ae h.r)).2 h.mr,s2.keep hd (fun(hn:D=bo)=>by rw[hn,ig]at hd;cases hd),(s.mem _ (ae h.d)).2 h.md,ho.step s2 (λb hb (hn:b=bo)=>ho.eu ig hT (by rw[<-hn];exact hb)),s2.keep ke (fun(hn:bi=bo)=>V4 (by rw[hn];exact JQ)),s2.keep px (fun(hn:bd=bo)=>Ph (by rw[hn];exact JQ)),V4,Ph,h.z⟩⟩
end
theorem apt {α:Type} {A:RT α} {e T:TypeId} {M M1:aJ} {w0 w:World} {bo bi bd:Nat} {vd:Value} {st:Loop} (hM:Lt M1 w) (S:Step M w0 M1 w aA) (go:w.heap[bo]? =some (.cells #[.slice none 0 0] T (0,0))) (mo:M1 bo) (gi:w.heap[bi]? =some (.cells #[.int .i64 0] 3 (0,0))) (gd:w.heap[bd]? =some (.cells #[vd] 139 (0,0))) (fi: ¬M1 bi) (fd: ¬M1 bd) (Kb:w0.heap.size<=bo):
  ∃M',Si A e T M w0 bo bi bd w.heap.size vd st (.slice none 0 0) [] M' ((w.alloc (.deferred (some []))).alloc (.loop st)):=by
 have sA:Step M1 w (ins M1 w.heap.size) (w.alloc (.deferred (some []))) aA:=(dK M1 w _).own (aN _) (by simp);have sB:Step (ins M1 w.heap.size) (w.alloc (.deferred (some []))) (ins (ins M1 w.heap.size) (w.heap.size+1)) ((w.alloc (.deferred (some []))).alloc (.loop st)) aA:=(dK _ _ _).own (by simp) (by simp);have hD:(w.alloc (.deferred (some []))).heap[w.heap.size]? =some (.deferred (some [])):=de w _;have hR:((w.alloc (.deferred (some []))).alloc (.loop st)).heap[w.heap.size+1]? =some (.loop st):=by have:=de (w.alloc (.deferred (some []))) (.loop st);rwa [CD]at this
 have SS:=(S.aw sA).aw sB;have hi:=ae gi;have hd:=ae gd;refine⟨_,sB.lt (sA.lt hM),SS,sB.aP (sA.aP go),.inr (.inr mo),hR,.inl G,sB.aP hD,.inr (.inl G),dh _ _ _ _ _,sB.aP (sA.aP gi),sB.aP (sA.aP gd),?_,?_,Kb,S.size⟩
 ·rintro(h|h|h)
  ·omega
  ·omega
  ·exact fi h
 ·rintro(h|h|h)
  ·omega
  ·omega
  ·exact fd h
theorem BU {M:aJ} {d:Di} {v0:Value} (w0:World) (hM:Lt M w0) (hd:dv RT.di M w0 v0 d) (hdl:d.1.length=d.2.length) (hd6:d.1.length<=1000000000):
  Spec Tryz.prog 76 #[v0] w0 (λv w=>(RT.str.sl).V M w d.1 v/\Step M w0 M w aA):=by
 have ir:=hM;obtain⟨Na,_⟩:=Sf hd;refine qf (args:=[_]) (fn:=Tryz.f76) Tryz.func76 G (n:=14) Tryz.ntmps76 ?_;have S:Step M w0 M w0 aA:=bz;refine T.aQ (Rg.bA G G (T.aQ ?_));refine eA M qM G (λeW zZ Qk Ql kn lz=>?_);obtain⟨lR,kJ⟩:∃M',M'=ins M eW:=⟨_,rfl⟩;rw[<-kJ]at lz;have iP:lR eW:=by rw[kJ];exact .inl G
 change zZ.heap[eW]? =some (.cells #[.slice none 0 0] _ _)at kn;replace hM:=lz.lt hM;have:=S.size;replace S:=S.aw lz;refine ad (aI (T.aQ (ab G G ?_)));refine a8 G G E77 (D0 (M:=lR) _ hM (hd.le q0 lz.le)) (λr2 w2 hc=>?_);obtain⟨bi,bd,rfl,gi,gd,P0,hbd,s2⟩:=hc;have fi: ¬lR bi:=λh=>by have:=hM _ h;omega
 have fd: ¬lR bd:=λh=>by have:=hM _ h;omega
 replace fi: ¬lR bi:=fi;have:=ae kn;replace iP:=(s2.mem _ this).2 iP;replace kn:=s2.aP kn;replace hM:=s2.lt hM;have:=S.size;replace S:=S.aw s2;refine ad (aS ?_);refine T.range (gf:=123) (lb:=[.pointer (some ⟨bi,0,none⟩),.pointer (some ⟨bd,0,none⟩)].toArray) G abp (λrec pI=>?_);obtain⟨D,hD⟩:∃D,D=w2.heap.size:=⟨_,rfl⟩;obtain⟨Mr,h0⟩:=apt (A:=RT.str) (e:=9) (st:=rec .ready none) hM S kn iP gi gd fi fd k3;rw[<-hD]at pI h0 ⊢;refine Spec.mono (BR (wv:=w0) (M:=M) (J:=λi w=>∃M' vo,Si (RT.str) 9 57 M w0 eW bi bd D v0 (rec .ready none) vo (d.1.take i) M' w) (Jx:=λ_=>False) _ hd hdl (λi w w' ⟨M',vo,h⟩ s=>⟨M',vo,h.aE (s.any M')⟩) (λi w ⟨M',vo,h⟩=>⟨h.gi,h.gd,h.S.back.le⟩) (λi wr x t vt hJ hx ht hp=>?_) ⟨Mr,_,h0⟩) (λ_ w3 h3=>?_)
 ·obtain⟨M',vo,h⟩:=hJ;refine nW (ps:=[7,8]) (vs:=[sv x,vt]) pI h.r G q0 (aH (Rg.bA G G (⟨G,h.r,?_⟩)));have h4:=h.oP (st':=rec .busy none);have s4:Step M' wr M' (wr.putObj (D+1) (.loop (rec .busy none))) (λk=>k=D+1):=eO h.mr;generalize wr.putObj (D+1) _=w4 at h4 s4 ⊢;refine aS (aH (aV az G G G h4.o G (bc (v':=vo) G (ab G G ?_))));refine dP (A:=RT.str) (hn:=by decide) (M:=M') az I9 q0 G G h4.lt (j8.2 ⟨G,Na x (au hx)⟩) (.inr ⟨G,G⟩) (λu5 w5 Gv s5=>?_);have h6:=h4.aE s5;have pX:=(aj.1 hx).1;refine cN (M:=M') (base:=w0.heap.size) az I9 rfl rfl rfl rfl h6.own Gv bY a03 a03 h6.S.size (λv6 M6 w6 th s6=>?_);obtain⟨⟨go6,mo6⟩,IX⟩:=h6.grow q0 s6 th;refine cF (M:=M6) qM rfl rfl go6 rfl ak2 mo6 (λw7 g7 s7=>?_);refine ad ?_;have h8:=(IX s7 g7).oP (st':=rec .ready none);exact⟨(IX s7 g7).r,true,rfl,λ_=>⟨M6,v6,by rw[bB,hx,bU];exact h8⟩,λh=>by cases h⟩
 ·obtain⟨M',vo,h⟩:=h3.resolve_right id;left;refine ⟨h.r,?_⟩;have h5:=h.oP (st':=rec .exhausted none);generalize w3.putObj (D+1) _=wE at h5 ⊢;refine T.aQ (aV az G G G h5.o G (bc (v':=vo) G (Rg.bA G G (aT ?_))));have sE:Step M' wE M' (wE.putObj D (.deferred none)) (λk=>k=D):=eO h5.md;have hz:=h5.z;have hS:=h5.S.cL sE (λk (hk:k=D)=>by omega)
  have ho:=h5.own.step sE (λb hb (hn:b=D)=>by
   obtain⟨cs,hc⟩:=h5.own.isCells hb;rw[hn,h5.d]at hc;cases hc)
  rw[aL (aN _)]at ho;exact Er G G h5.d ⟨ho.close ir hS k3,hS.back⟩
theorem Kj {M:aJ} {s:Se} {v0:Value} (w0:World) (hM:Lt M w0) (hdl:s.2.2.1.length=s.2.2.2.length) (hd6:s.2.2.1.length<=1000000000) (hs:dv RT.se M w0 v0 s):
  Spec Tryz.prog 38 #[v0] w0 (λv w=>(RT.str.sl).V M w s.2.2.1 v/\Step M w0 M w aA):=by
 refine bF (args:=[_]) (fn:=Tryz.f38) Tryz.func38 G (n:=8) Tryz.ntmps38 (T.aQ (Rg.bA G G (T.aQ (ab G G (cu G hs.iZ G ?_)))));refine aD (A:=RT.se) (B:=(RT.di).ptr) j3 G G Hz q0 se2 G G q0 hs bY (λJW qu=>?_);refine bE iL G G G G G qu bY (λvd hvd=>?_);refine a8 G G E76 (BU _ hM (oQ.1 hvd) hdl hd6) (λr wc hc=>?_);obtain hc:=hc;refine Rg.bA G G (aT ?_);exact aX G G hc
end Go.K
namespace Go.K
open Go.Proofs
namespace TKSegE
theorem Hz:TI Tryz.prog 139 (.pointer none) 1 8:=by unfold TI;kernel_rfl
theorem E79:Enters Tryz.prog 79:=enters Tryz.func79 rfl q0
end TKSegE
open TKSegE
set_option maxRecDepth 10000
def V5 (ns:List (List UInt8)) (ls:List (List Po)) (k:List UInt8):List Po:=match (ns.zip ls).find? (λp=>decide (p.1=k))with|some p=>p.2|none=>[]
theorem Kl {ns:List (List UInt8)} (hn:ns.Nodup) {ls:List (List Po)} {k:List UInt8} {j:Nat} {l:List Po} (h:ns[j]? =some k) (hl:ls[j]? =some l):V5 ns ls k=l:=by
 have:∀{ns:List (List UInt8)} {ls:List (List Po)} {j:Nat},ns.Nodup->ns[j]? =some k->ls[j]? =some l->(ns.zip ls).find? (λp=>decide (p.1=k))=some (k,l):=by
  intro ns
  induction ns with
  |nil=>intro ls j _ h;simp at h
  |cons x ns ih=>
   intro ls j hn h hl
   cases ls with
   |nil=>simp at hl
   |cons y ls=>
    cases j with
    |zero=>simp at h hl;subst h;subst hl;simp
    |succ j=>
     have JG:=AD.1 hn;have hk:k∈ns:=au a69;have hx:x≠k:=λe=>JG.1 (by rw[e];exact hk)
     rw[List.zip_cons_cons,List.find?_cons_of_neg a65];exact ih JG.2 a69 (by simpa using hl)
 unfold V5;rw[this hn h hl]
theorem BV {ns:List (List UInt8)} {ls:List (List Po)} {k:List UInt8} (h:k∉ns):V5 ns ls k=[]:=by
 unfold V5;rw[List.find?_eq_none.2 λp hp=>by have:=List.of_mem_zip hp;simp;intro e;exact h (e▸this.1)]
theorem Sk {L:List En} (k:List UInt8):V5 (keysOf L) ((keysOf L).map (pk L)) k=pk L k:=by
 by_cases h:k∈keysOf L
 ·obtain⟨j,hj⟩:=bQ.1 h;exact Kl (lD L).nodup hj (by rw[bj,hj];rfl)
 ·rw[BV h];exact(ES 0 (λh'=>h (ka.2 h'))).symm
def agN (d:Di) (k:List UInt8) (M:aJ) (v:Value) (w:World):Prop:=(∃(j:Nat) (t:Li),d.1[j]? =some k/\d.2[j]? =some t/\dv RT.li M w v t)\/(v= .pointer none/\k∉d.1)
end Go.K
namespace Go.K
open Go.Proofs
namespace TKAdv
theorem wK:TI Tryz.prog 80 (.slice none 0 0) 1 24:=by unfold TI;kernel_rfl
theorem agO:Enters Tryz.prog 180:=enters Tryz.func180 rfl q0
end TKAdv
open TKAdv
set_option maxRecDepth 10000
end Go.K
namespace Go.K
open Go.Proofs
namespace TKErsA
theorem Hz:TI Tryz.prog 139 (.pointer none) 1 8:=by unfold TI;kernel_rfl
theorem E79:Enters Tryz.prog 79:=enters Tryz.func79 rfl q0
theorem abc:Enters Tryz.prog 145:=enters Tryz.func145 rfl q0
end TKErsA
open TKErsA
set_option maxRecDepth 10000
end Go.K
namespace Go.K
open Go.Proofs
namespace TKErsB
theorem E58:Enters Tryz.prog 58:=enters Tryz.func58 rfl q0
end TKErsB
open TKErsB
set_option maxRecDepth 10000
end Go.K
namespace Go.K
open Go.Proofs
set_option maxRecDepth 10000
structure Sm {α:Type} (A:RT α) (e T C:TypeId) (K:aJ->World->Prop) (M:aJ) (w0:World) (bo D:Nat) (st:Loop) (vo:Value) (xs:List α) (M':aJ) (w:World):Prop where
 lt:Lt M' w
 S:Step M w0 M' w aA
 o:w.heap[bo]? =some (.cells #[vo] T (0,0))
 mo:M' bo
 r:w.heap[D+1]? =some (.loop st)
 mr:M' (D+1)
 d:w.heap[D]? =some (.deferred (some []))
 md:M' D
 own:Own A e M' w w0.heap.size vo xs
 k:K M' w
 z:w0.heap.size<=bo/\w0.heap.size<=D
section
variable {α:Type} {A:RT α} {e T C:TypeId} {K:aJ->World->Prop} {M M1 M2 N:aJ} {w0 w w':World} {bo D:Nat} {st:Loop} {vo:Value} {xs:List α}
theorem Sm.aE (hK:∀{M w M' w'},K M w->Le M w M' w'→K M' w') (h:Sm A e T C K M w0 bo D st vo xs M1 w) (s:Step M1 w M2 w' aA):Sm A e T C K M w0 bo D st vo xs M2 w':=
 ⟨s.lt h.lt,h.S.aw s,s.aP h.o,(s.mem _ (ae h.o)).2 h.mo,s.aP h.r,(s.mem _ (ae h.r)).2 h.mr,s.aP h.d,(s.mem _ (ae h.d)).2 h.md,h.own.aE s,hK h.k s.le,h.z⟩
theorem Sm.oP (hK:∀{M w M' w'},K M w->Le M w M' w'→K M' w') {st':Loop} (h:Sm A e T C K M w0 bo D st vo xs M1 w):Sm A e T C K M w0 bo D st' vo xs M1 (w.putObj (D+1) (.loop st')):=by
 have s:Step M1 w M1 (w.putObj (D+1) (.loop st')) (λk=>k=D+1):=eO h.mr;obtain⟨z1,z2⟩:=h.z;refine⟨s.lt h.lt,h.S.cL s (λk (hk:k=D+1)=>by omega),s.keep h.o (fun(hn:bo=D+1)=>by have h1:=h.o;rw[hn,h.r]at h1;cases h1),h.mo,zP (ae h.r),h.mr,s.keep h.d (fun(hn:D=D+1)=>by omega),h.md,h.own.step s (λb hb (hn:b=D+1)=>?_),hK h.k s.le,h.z⟩;obtain⟨cs,hc⟩:=h.own.isCells hb;rw[hn,h.r]at hc;cases hc
theorem Sm.grow (hK:∀{M w M' w'},K M w->Le M w M' w'→K M' w') {Ki:Value} {Sj:List α} (hT:T≠e) (h:Sm A e T C K M w0 bo D st vo xs M1 w) (s:Step M1 w M2 w' (gy vo)) (ho:Own A e M2 w' w0.heap.size Ki Sj):
  (w'.heap[bo]? =some (.cells #[vo] T (0,0))/\M2 bo)/\∀{w2:World},Step M2 w' M2 w2 (λk=>k=bo)->w2.heap[bo]? =some (.cells #[Ki] T (0,0))->Sm A e T C K M w0 bo D st Ki Sj M2 w2:=by
 obtain⟨z1,z2⟩:=h.z
 have BS:∀{b:Nat} {o:Obj},w.heap[b]? =some o->(∀cs fr,o≠ .cells cs e fr)->¬gy vo b:=λ{b o} hb fG hn=>by
  obtain⟨⟨C,h1,_⟩,_⟩:=h.own;rcases h1.2 with h3|⟨g,cap,cur,h3,h4,h5,_⟩
  ·unfold gy at hn;rw[h3.1]at hn;cases hn
  ·unfold gy at hn;rw[h3]at hn;cases hn;rw[hb]at h5;exact fG _ _ (ar h5)
 have ig:=s.keep h.o (BS h.o (λcs fr hc=>by injection hc with _ h1 _;exact hT h1));have hr:=s.keep h.r (BS h.r (λcs fr hc=>by cases hc));have hd:=s.keep h.d (BS h.d (λcs fr hc=>by cases hc));have JQ:=(s.mem _ (ae h.o)).2 h.mo;refine⟨⟨ig,JQ⟩,λ{w2} s2 hx=>⟨s2.lt (s.lt h.lt),(h.S.cC s h.own (aN _)).cL s2 (λk (hk:k=bo)=>by omega),hx,JQ,s2.keep hr (fun(hn:D+1=bo)=>by rw[hn,ig]at hr;cases hr),(s.mem _ (ae h.r)).2 h.mr,s2.keep hd (fun(hn:D=bo)=>by rw[hn,ig]at hd;cases hd),(s.mem _ (ae h.d)).2 h.md,ho.step s2 (λb hb (hn:b=bo)=>ho.eu ig hT (by rw[<-hn];exact hb)),hK (hK h.k s.le) s2.le,h.z⟩⟩
end
theorem apy {α:Type} {A:RT α} {e T C:TypeId} {K:aJ->World->Prop} {M M1:aJ} {w0 w:World} {bo:Nat} {st:Loop} (hK:∀{M w M' w'},K M w->Le M w M' w'→K M' w') (hM:Lt M1 w) (S:Step M w0 M1 w aA) (go:w.heap[bo]? =some (.cells #[.slice none 0 0] T (0,0))) (mo:M1 bo) (hk:K M1 w) (Kb:w0.heap.size<=bo):
  ∃M',Sm A e T C K M w0 bo w.heap.size st (.slice none 0 0) [] M' ((w.alloc (.deferred (some []))).alloc (.loop st)):=by
 have sA:Step M1 w (ins M1 w.heap.size) (w.alloc (.deferred (some []))) aA:=(dK M1 w _).own (aN _) (by simp);have sB:Step (ins M1 w.heap.size) (w.alloc (.deferred (some []))) (ins (ins M1 w.heap.size) (w.heap.size+1)) ((w.alloc (.deferred (some []))).alloc (.loop st)) aA:=(dK _ _ _).own (by simp) (by simp);have hD:(w.alloc (.deferred (some []))).heap[w.heap.size]? =some (.deferred (some [])):=de w _;have hR:((w.alloc (.deferred (some []))).alloc (.loop st)).heap[w.heap.size+1]? =some (.loop st):=by have:=de (w.alloc (.deferred (some []))) (.loop st);rwa [CD]at this
 exact⟨_,sB.lt (sA.lt hM),(S.aw sA).aw sB,sB.aP (sA.aP go),.inr (.inr mo),hR,.inl G,sB.aP hD,.inr (.inl G),dh _ _ _ _ _,hK (hK hk sA.le) sB.le,Kb,S.size⟩
namespace TKBldJ
theorem tU:TI Tryz.prog 58 (.slice none 0 0) 1 24:=by unfold TI;kernel_rfl
theorem E4:TI Tryz.prog 72 (.agg #[(.slice none 0 0),(.slice none 0 0),(.slice none 0 0),(.slice none 0 0)]) 4 96:=by unfold TI;kernel_rfl
theorem wK:TI Tryz.prog 80 (.slice none 0 0) 1 24:=by unfold TI;kernel_rfl
theorem E39:Enters Tryz.prog 39:=enters Tryz.func39 rfl q0
theorem E40:Enters Tryz.prog 40:=enters Tryz.func40 rfl q0
theorem E41:Enters Tryz.prog 41:=enters Tryz.func41 rfl q0
theorem E42:Enters Tryz.prog 42:=enters Tryz.func42 rfl q0
theorem E43:Enters Tryz.prog 43:=enters Tryz.func43 rfl q0
end TKBldJ
open TKBldJ
set_option maxRecDepth 10000
set_option maxHeartbeats 4000000 in
theorem Km {M:aJ} {L:List En} {v0:Value} (w0:World) (hM:Lt M w0) (hv:(RT.en.sl).V M w0 L v0) (hl:∀e∈L,∀f∈e.1.2,f.1.length<=900000/\f.2.length<=900000) (hn:L.length<=100000) (hok:wW (-1) L=true):
  Spec Tryz.prog 11 #[v0] w0 (λv w=>∃s,v= .tuple #[s,.int .i64 0]/\dv RT.se M w s (wV (fa L))/\Step M w0 M w aA):=by
 have ir:=hM;have hF:=jQ hok
 have FR:(keysOf L).length<=500000000:=by
  have h1:=(lD L).nodup.length_le_of_subset (l₂:=jb L) (λx hx=>ka.1 hx);have:=mK hF;omega
 have Vt:∀k∈keysOf L,k.length<=43:=λk hk=>zB hF k (ka.1 hk)
 refine bF (args:=[_]) (fn:=Tryz.f11) Tryz.func11 G (n:=63) Tryz.ntmps11 ?_;have S:Step M w0 M w0 aA:=bz;refine T.aQ (aB G G (Rg.bA G G (T.aQ ?_)));refine a8 G G E39 (Rr (Z:=λk=>w0.heap.size<=k) (B:=w0.heap.size) _ hM (aN _) (λk hk=>hk)) (λr1 w1 hc=>?_);obtain⟨M1,b1,rfl,_,jy,s1⟩:=hc;replace jy:=jy.N1 (Z':=λk=>w0.heap.size<=k/\k<w1.heap.size) (λc hc eK=>⟨hc,eK⟩);replace hv:=hv.le s1.le;replace hM:=s1.lt hM;have:=S.size;replace S:=S.aw s1;refine Rg.bA G G (T.aQ ?_);refine eA M1 E4 G (λiY ZX amE amF Gz Bg=>?_);obtain⟨Qm,Bh⟩:∃M',M'=ins M1 iY:=⟨_,rfl⟩;rw[<-Bh]at Bg;have Bi:Qm iY:=by rw[Bh];exact .inl G
 change ZX.heap[iY]? =some (.cells #[.slice none 0 0,.slice none 0 0,.slice none 0 0,.slice none 0 0] _ _)at Gz;replace hv:=hv.le Bg.le;replace jy:=jy.aE Bg;replace hM:=Bg.lt hM;have:=S.size;replace S:=S.aw Bg;refine ad (aI (T.aQ (ab G G (bK dp G hv G (ab G G (ad (aS ?_)))))));refine dg (σ:=Nat×Value×Value) (λq=>[(4,.pointer (some ⟨b1,0,none⟩)),(5,.pointer (some ⟨iY,0,none⟩)),(12,v0),(13,.int .i64 (L.length:Int)),(14,.int .i64 (q.1:Int))]) (λq w=>∃M' words,Lt M' w/\Step M w0 M' w aA/\(RT.en.sl).V M' w L v0/\qv (ZP w0.heap.size iY q.2.1 q.2.2) M' w w0.heap.size b1 (L.take q.1) words (pB (-1) (L.take q.1))/\w.heap[iY]? =some (.cells #[q.2.1,q.2.2,.slice none 0 0,.slice none 0 0] 72 (0,0))/\M' iY/\Own (RT.int .i64) 3 M' w w0.heap.size q.2.1 ((L.take q.1).map (·.1.1))/\Own (RT.int .i64) 3 M' w w0.heap.size q.2.2 ((L.take q.1).map (·.2))/\fL q.2.1 q.2.2/\0<=words/\words<=500*(q.1:Int)/\q.1<=L.length) (λq=>L.length-q.1) (0,.slice none 0 0,.slice none 0 0) a19 ?_ ?_
 ·exact⟨_,0,hM,S,hv,jy.N1 (Z':=ZP w0.heap.size iY (.slice none 0 0) (.slice none 0 0)) (λc hc eK=>⟨hc.1,(λh=>by have:=hc.2;omega),(λh=>by cases h),(λh=>by cases h)⟩),Gz,Bi,dh _ _ _ _ _,dh _ _ _ _ _,fL.nil _,by omega,by omega,bC _⟩
 ·clear hM S hv jy;rintro⟨i,vi,vs⟩ w ⟨M2,words,hM,S,hv,jy,g2,dx,dB,fV,qt,hw1,hw2,hi⟩;dsimp only at jy g2 dB fV qt hw2 hi ⊢;refine T.aQ (ch G G G (ad (aI ?_)));refine bM G (λc4=>?_) (λc4=>?_)
  ·refine aR (aI (aS (T.aQ ?_)));refine bX dp A3 G G G hv bY k3 (λu5 e NG Gv=>?_);rw[an]at NG;obtain⟨Yh,abq⟩:=R6 hok NG;have hem:=au NG;refine cW (A:=RT.en) dH G A3 q0 G G G Gv bY (λv5 tg=>?_);obtain⟨hr1,lr⟩:=abl tg;refine vS (A:=RT.en) (M:=M2) A3 G G G G G W4 bY hM (λaoo aBh zC HA aBi=>?_);have:=ae g2;replace dx:=(HA.mem _ this).2 dx;replace g2:=HA.aP g2;replace hv:=hv.le HA.le;replace dB:=dB.aE HA;replace fV:=fV.aE HA;replace jy:=jy.aE HA;replace hM:=HA.lt hM;have:=S.size;replace S:=S.aw HA;refine ad (aI (T.aQ (ab G G ?_)));refine cW (A:=RT.en) dH G A3 q0 G G G zC bY (λv6 wz=>?_);refine a8 G G E40 (Rt (Z:=ZP w0.heap.size iY vi vs) _ hM (λk hk=>⟨by have:=S.size;omega,λh=>by have:=ae g2;omega,λh=>by have:=(dB.base k h).2;omega,λh=>by have:=(fV.base k h).2;omega⟩) jy ad1 wz (hl e hem) (λx hx=>hF x (lV hx)) a03 k3) (λr6 w6 hc=>?_);obtain⟨M6,N6,s6,rfl,_,Zs⟩:=hc;replace jy:=Zs Yh;have XV:(mU e).length<=500:=(hF e hem).many;refine bc (v':= .int .i64 0) (by rw[Yh]) ?_;replace dB:=dB.step s6 (λc hc h=>h.1.2.2.1 hc);replace fV:=fV.step s6 (λc hc h=>h.1.2.2.2 hc);replace dx:=(s6.mem _ (ae g2)).2 dx;replace g2:=s6.keep g2 (λh=>h.1.2.1 rfl);replace hv:=hv.le s6.le;replace zC:=zC.le q0 s6.le;replace S:=S.cL s6 (λk hk=>hk.1.1);replace hM:=N6;rw[abq.symm]at jy;refine Rg.bA G G (T.aQ (ab G G (fH G G G (ad (T.zQ G ((λh=>h rfl)) (aR ?_))))));have g2p:=g2;have agP:=dx;have Mj:=hv;have agQ:=jy;have E6:=dB;have Sn:=fV;have hMp:=hM;have Sp:=S;obtain⟨P6,hP6⟩:∃P6:Value->World->Prop,P6=λv w'=>Own (RT.int .i64) 3 (o9 v) w' w0.heap.size v ((L.take i).map (·.1.1)++[e.1.1])/\(∀c,v.ownBlock=some c->w6.heap.size<=c\/vi.ownBlock=some c):=⟨_,rfl⟩
   have h6:∀{v:Value} {w w':World},P6 v w->Step M6 w M6 w' aA->P6 v w':=λ{v w w'} h s=>by rw[hP6]at h ⊢;exact⟨h.1.Yf s (λ_ _ h=>h),h.2⟩
   apply T.Ye (M:=M6) [0,1,2,3,4,5,6,7,8,9,10,11,13,12,14,15,16] 13 12 37 (.pointer (some ⟨iY,0,none⟩)) [(6,gy vi)] [cM.eq (.pointer (some ⟨iY,0,none⟩)),cM.eq vi,cM.ptr RT.dc e.1,cM.ptr (RT.int .i64) e.1.1,cM.eq (.int .i64 e.1.1),cM.V ((RT.int .i64).sl) [e.1.1],(cM.mk' (λv w=>P6 v w) (λh s=>h6 h s)),cM.eq (.pointer (some ⟨iY,1,none⟩)),cM.eq vs,cM.ptr (RT.int .i64) e.2,cM.eq (.int .i64 e.2),cM.V ((RT.int .i64).sl) [e.2],cM.eq (.pointer (some ⟨iY,0,none⟩))] mixed
   ·simp+decide only[zY,tx,fe,je,gV,gX,fg,dA,gI,lN,cond_true,cond_false,Nat.reduceBEq,Nat.reduceAdd,beq_self_eq_true];rfl
   ·rfl
   ·rfl
   ·rfl
   ·rfl
   ·rfl
   ·rfl
   ·rfl
   ·rfl
   ·rfl
   ·rfl
   ·rfl
   ·exact λρ w h=>BO (size:=1) (o:=0) (o':=0) bT G G iJ q0 (h (.tmp 5) _ G) w
   ·intro p hp b hb;simp only[cR,fC,or_false]at hp;subst hp;exact dB.mut_ b hb
   ·exact λp hp=>by
     simp only[cR,fC,or_false]at hp;subst hp;show(6:Nat)≠12;decide
   ·exact yn.st (by exact⟨λ_ _ _ _=>trivial,⟨λ_ _ _ _=>trivial,⟨λ_ _ _ _=>trivial,⟨λ_ _ _ _=>trivial,⟨λ_ _ _ _=>trivial,⟨λ_ _ _ _=>trivial,⟨λp hp b hb=>(by simp at hp),⟨λ_ _ _ _=>trivial,⟨λ_ _ _ _=>trivial,⟨λ_ _ _ _=>trivial,⟨λ_ _ _ _=>trivial,⟨λ_ _ _ _=>trivial,⟨λ_ _ _ _=>trivial,trivial⟩⟩⟩⟩⟩⟩⟩⟩⟩⟩⟩⟩⟩)
   intro wR9 Yi;have Sq:=Yi M6;have:=ae g2;replace dx:=(Sq.mem _ this).2 dx;replace g2:=Sq.aP g2;replace hv:=hv.le Sq.le;replace zC:=zC.le q0 Sq.le;replace dB:=dB.aE Sq;replace fV:=fV.aE Sq;replace jy:=jy.aE Sq;replace hM:=Sq.lt hM;have:=S.size;replace S:=S.aw Sq;have g2R:=g2;have agR:=dB;have aBk:=fV;have hz6:=Sq.size;refine⟨?_,?_⟩
   ·refine aO ?_ ?_
    ·intro wD E sD;replace sD:Step M6 _ M6 wD (gy vi):=sD;refine bR (o':=0) bT G G iJ q0 G G ?_;exact a01
    refine aO ?_ ?_
    ·intro wD E sD;replace sD:Step M6 _ M6 wD aA:=sD;refine aC (aV ah G G G (sD.aP g2R) G ?_);exact a01
    refine aO ?_ ?_
    ·intro wD E sD;replace sD:Step M6 _ M6 wD (gy vi):=sD;refine aD (M:=M6) (A:=RT.en) (B:=RT.dc) dH G G nY q0 Ve G G q0 zC sD.le (λuf tT=>?_);exact a61
    refine aO ?_ ?_
    ·intro wD E sD;replace sD:Step M6 _ M6 wD (gy vi):=sD;intro v2 yz;refine aD (A:=RT.dc) (B:=RT.int .i64) bg G G I3 q0 dc0 G G q0 (show dv RT.dc M6 wD v2 e.1 from yz) bY (λuf tT=>?_);exact a61
    refine aO ?_ ?_
    ·intro wD E sD;replace sD:Step M6 _ M6 wD (gy vi):=sD;intro v3 yE;refine bV aq G G (show dv (RT.int .i64) M6 wD v3 e.1.1 from yE) bY (λk4=>?_);exact a01
    refine aO ?_ ?_
    ·intro wD E sD;replace sD:Step M6 _ M6 wD aA:=sD;refine aC ?_;refine dP (A:=RT.int .i64) (hn:=by decide) (M:=M6) ah I3 q0 G G (sD.lt hM) (gw hr1) (.inr ⟨G,G⟩) (λuS wS hS sS=>?_);exact ad ⟨G,G,_,G,hS,sS⟩
    refine aO ?_ ?_
    ·intro wD E sD;replace sD:Step M6 _ M6 wD aA:=sD;refine aC ?_;intro v5 tg;replace sD:Step M6 wR9 M6 wD aA:=sD;refine fI (M:=M6) (base:=w0.heap.size) ah I3 rfl rfl rfl rfl (agR.aE sD) (show((RT.int .i64).sl).V M6 wD [e.1.1] v5 from tg) bY a03 a03 (by have:=sD.size;have:=S.size;omega) (λvA wA hoA sA hFA=>?_);exact ad ⟨G,G,_,G,by show P6 vA wA;rw[hP6];exact⟨hoA.lone,λc hc=>(hFA c hc).elim (λh=> .inl (by have:=sD.size;omega)) .inr⟩,sA.back⟩
    refine aO ?_ ?_
    ·intro wD E sD;replace sD:Step M6 _ M6 wD (gy vi):=sD;refine bR (o':=1) bT G G iJ q0 G G ?_;exact a01
    refine aO ?_ ?_
    ·intro wD E sD;replace sD:Step M6 _ M6 wD (gy vi):=sD;refine aC (aV ah G G G (sD.keep g2R (λh=>agR.eu g2R q0 h)) G ?_);exact a01
    refine aO ?_ ?_
    ·intro wD E sD;replace sD:Step M6 _ M6 wD (gy vi):=sD;refine aD (M:=M6) (A:=RT.en) (B:=RT.int .i64) dH G G I3 q0 en1 G G q0 zC sD.le (λuf tT=>?_);exact a61
    refine aO ?_ ?_
    ·intro wD E sD;replace sD:Step M6 _ M6 wD (gy vi):=sD;intro v9 Au;refine bV aq G G (show dv (RT.int .i64) M6 wD v9 e.2 from Au) bY (λk4=>?_);exact a01
    refine aO ?_ ?_
    ·intro wD E sD;replace sD:Step M6 _ M6 wD (gy vi):=sD;refine aC ?_;refine dP (A:=RT.int .i64) (hn:=by decide) (M:=M6) ah I3 q0 G G (sD.lt hM) (gw lr) (.inr ⟨G,G⟩) (λuS wS hS sS=>?_);exact ad ⟨G,G,_,G,hS,sS⟩
    refine aO ?_ ?_
    ·intro wD E sD;replace sD:Step M6 _ M6 wD (gy vi):=sD;refine aC (aC ?_);intro v2 yz;intro v3 yE;refine aC ?_;intro v5 tg;intro v6 wz;refine aC (aC (bR (o':=0) bT G G iJ q0 G G ?_));exact a01
    exact vV
   ·intro Uv Cx;replace Cx:Step M6 _ M6 Uv (gy vi):=Cx;refine aC (aC ?_);intro anF Rv;intro aBl avV;refine aC ?_;intro aBm avW;intro E7 Mk;refine aC (aC ?_);intro aBn avX;refine aC ?_;intro agS Kn;refine aC ?_;replace Mk:P6 E7 Uv:=Mk;rw[hP6]at Mk;obtain⟨th,hb9⟩:=Mk;replace Kn:((RT.int .i64).sl).V M6 Uv [e.2] agS:=Kn;have sX:Step M6 w6 M6 Uv (gy vi):=(Sq.eL a42 (λb h=>E6.mut_ b h)).trans Cx (λb _ h=>h);have apE:=Sn.step sX (λc hc h=>qt c h hc);refine fI (M:=M6) (base:=w0.heap.size) ah I3 rfl rfl rfl rfl apE Kn bY a03 a03 (by have:=Sp.size;have:=sX.size;omega) (λv12 w12 V6 CQ abr=>?_)
    have JR:∀c,E7.ownBlock=some c->vs.ownBlock≠some c:=λc hc hv=>by
     rcases hb9 c hc with h|h
     ·have:=(Sn.base c hv).2;omega
     ·exact qt c h hv
    have agU:=th.Yf CQ (λc hc h=>JR c hc h)
    have agV:fL v12 E7:=λc hc hc6=>by
     rcases abr c hc with h|h
     ·have:=(th.base c hc6).2;omega
     ·exact JR c hc6 h
    have apF:∀c,v12.ownBlock=some c->w6.heap.size<=c\/vs.ownBlock=some c:=λc hc=>(abr c hc).elim (λh=> .inl (by have:=sX.size;omega)) .inr
    have sZ:Step M6 w6 (ji M6 v12) w12 (λk=>gy vi k\/gy vs k):=(sX.eL (λ_ h=> .inl h) (λb h=>h.elim (E6.mut_ b) (Sn.mut_ b))).trans CQ (λb _ h=> .inr h);obtain⟨V7,Od⟩:∃M',M'=ji (ji M6 v12) E7:=⟨_,rfl⟩;have sW:Step M6 w6 V7 w12 (λk=>gy vi k\/gy vs k):=by rw[Od];exact sZ.agJ (λc hc=>⟨(agU.base c hc).2,(hb9 c hc).elim .inl (λh=> .inr (.inr (E6.mut_ c h)))⟩)
    have dB:=agU.UY (M':=V7) (by rw[Od];exact λb hb=> .inl hb);have fV:=V6.UY (M':=V7) (by rw[Od];exact λb hb=> .inr (.inl hb));have dx:=(sW.mem _ (ae g2p)).2 agP;have g2:=sW.keep g2p (λh=>h.elim (E6.eu g2p q0) (Sn.eu g2p q0));have jy:=((agQ.N1 (Z':=λk=>ZP w0.heap.size iY vi vs k/\ZP w0.heap.size iY E7 v12 k) (λc hc eK=>⟨hc,hc.1,hc.2.1,λh=>(hb9 c h).elim (λh=>by omega) hc.2.2.1,λh=>(apF c h).elim (λh=>by omega) hc.2.2.2⟩)).step sW (λk hk hz=>hk.elim hz.1.2.2.1 hz.1.2.2.2)).N1 (Z':=ZP w0.heap.size iY E7 v12) (λc hc _=>hc.2);have hv:=Mj.le sW.le;have S:=Sp.cL sW (λk hk=>hk.elim (λh=>(E6.base k h).1) (λh=>(Sn.base k h).1));have hM:=sW.lt hMp;refine ad ⟨G,G,λh=>absurd G h,?_⟩;refine cF (M:=V7) iJ rfl rfl g2 rfl ad5 dx (λw14 g14 lI=>?_);replace g14:w14.heap[iY]? =some (.cells #[E7,vs,.slice none 0 0,.slice none 0 0] 72 (0,0)):=g14;replace dB:=dB.step lI (λc hc (h:c=iY)=>dB.eu g2 q0 (h▸hc));replace fV:=fV.step lI (λc hc (h:c=iY)=>fV.eu g2 q0 (h▸hc));replace dx:=(lI.mem _ (ae g2)).2 dx;replace jy:=jy.step lI (λk (hk:k=iY) hz=>hz.2.1 hk);replace hv:=hv.le lI.le;replace S:=S.cL lI (λk (hk:k=iY)=>by rw[hk];omega);replace hM:=lI.lt hM;clear g2;have g2:=g14;refine ad ⟨G,G,λh=>absurd G h,bR (o':=1) bT G G iJ q0 G G (ad ⟨G,G,λh=>absurd G h,?_⟩)⟩;refine cF (M:=V7) iJ rfl rfl g2 rfl (by obtain⟨_,_,he,_⟩:=fV.isSlice;rw[he];rfl) dx (λw16 g16 DV=>?_);replace g16:w16.heap[iY]? =some (.cells #[E7,v12,.slice none 0 0,.slice none 0 0] 72 (0,0)):=g16;replace dB:=dB.step DV (λc hc (h:c=iY)=>dB.eu g2 q0 (h▸hc));replace fV:=fV.step DV (λc hc (h:c=iY)=>fV.eu g2 q0 (h▸hc));replace dx:=(DV.mem _ (ae g2)).2 dx
    replace jy:=jy.step DV (λk (hk:k=iY) hz=>hz.2.1 hk);replace hv:=hv.le DV.le;replace S:=S.cL DV (λk (hk:k=iY)=>by rw[hk];omega);replace hM:=DV.lt hM;clear g2;have g2:=g16;refine ad ⟨G,G,λh=>absurd G h,iu (aH (bG G G G k3 (ab G G (ad ?_))))⟩;have et:L.take (i+1)=L.take i++[e]:=by rw[bB,NG,bU]
    rw[et]at jy;refine⟨G,(i+1,E7,v12),a19,?_,?_⟩
    ·exact⟨_,_,hM,S,hv,by rw[et];exact jy,g2,dx,by rw[et,cG];exact dB,by rw[et,cG];exact fV,agV.symm,by omega,by dsimp only;omega,by dsimp only;omega⟩
    ·dsimp only;omega
  ·refine cO (T.aQ ?_);have V8:L.take i=L:=aL k3;rw[V8]at jy dB fV;refine ab G G ?_;refine a8 G G E41 (J0 _ hM jy hF k3) (λrk w11 hc=>?_);obtain⟨qx,BM⟩:=hc;have:=ae g2;replace dx:=(BM.mem _ this).2 dx;replace g2:=BM.aP g2;replace hv:=hv.le BM.le;replace dB:=dB.aE BM;replace fV:=fV.aE BM;replace jy:=jy.aE BM;replace hM:=BM.lt hM;have:=S.size;replace S:=S.aw BM;refine bR (o':=2) bT G G qM q0 G G ?_;refine cF (M:=M2) qM G G g2 G (mv qx G G) dx (λGP dM gZ=>?_);change GP.heap[_]? =some (Obj.cells #[vi,vs,rk,.slice none 0 0] _ _)at dM;have:=ae g2;replace dx:=(gZ.mem _ this).2 dx;replace hv:=hv.le gZ.le;replace qx:=qx.le gZ.le;replace dB:=dB.step gZ (λc hc (h:c=iY)=>dB.eu g2 q0 (h▸hc));replace fV:=fV.step gZ (λc hc (h:c=iY)=>fV.eu g2 q0 (h▸hc));replace jy:=jy.stepT gZ a47;replace hM:=gZ.lt hM;have:=S.size;replace S:=S.trans gZ (λk hk h=>by have h:_=_:=h;subst h;first|(exfalso;omega)|(show _<=_;omega)|exact⟨by first|omega|assumption,(S.mem _ hk).1 ((gZ.mem _ (ae g2)).1 dx)⟩|exact .inl rfl|exact .inr rfl|exact .inr (.inl rfl)|exact .inr (.inr rfl)|exact .inr (.inr (.inl rfl))|exact rfl);have Bt:=dM;clear g2;have g2:=Bt;clear Bt;refine ad (aI (T.aQ (bR (o':=2) bT G G qM q0 G G (aV az G G G g2 G (bc (v':=rk) G (bK az G qx G (ab G G (ad (aS ?_)))))))));refine dg (σ:=Nat×Value) (λq=>[(4,.pointer (some ⟨b1,0,none⟩)),(5,.pointer (some ⟨iY,0,none⟩)),(44,rk),(45,.int .i64 ((keysOf L).length:Int)),(46,.int .i64 (q.1:Int))]) (λq w=>∃M',Lt M' w/\Step M w0 M' w aA/\qv (ZP w0.heap.size iY vi vs) M' w w0.heap.size b1 L words (pB (-1) L)/\w.heap[iY]? =some (.cells #[vi,vs,rk,q.2] 72 (0,0))/\M' iY/\Own (RT.int .i64) 3 M' w w0.heap.size vi (L.map (·.1.1))/\Own (RT.int .i64) 3 M' w w0.heap.size vs (L.map (·.2))/\Own ((RT.po).sl) 80 M' w w0.heap.size q.2 (((keysOf L).take q.1).map (pk L))/\(RT.str.sl).V M' w (keysOf L) rk/\q.1<=(keysOf L).length) (λq=>(keysOf L).length-q.1) (0,.slice none 0 0) a19 ?_ ?_
   ·exact⟨_,hM,S,jy,g2,dx,dB,fV,dh _ _ _ _ _,qx,bC _⟩
   ·clear hM S jy g2 dx dB fV qx hv;rintro⟨i3,vl⟩ w ⟨M3,hM,S,jy,g2,dx,dB,fV,dR,qx,hi3⟩;dsimp only at g2 dR hi3 ⊢;refine T.aQ (ch G G G (ad (aI ?_)));refine bM G (λJz=>?_) (λJz=>?_)
    ·refine aR (aI (aS (T.aQ ?_)));refine bX az I9 G G G qx bY k3 (λu14 k abt apG=>?_);rw[an]at abt;refine bE aG G G G G G apG bY (λvk iE=>?_);obtain rfl:=fp iE;refine Rg.bA G G ?_;apply nq 4 [0,1] 2 aA mixed rfl rfl rfl rfl;intro aaU RM;have sO:=RM M3;have:=ae g2;replace dx:=(sO.mem _ this).2 dx;replace g2:=sO.aP g2;replace qx:=qx.le sO.le;replace dB:=dB.aE sO;replace fV:=fV.aE sO;replace dR:=dR.aE sO;replace jy:=jy.aE sO;replace hM:=sO.lt hM;have:=S.size;replace S:=S.aw sO;refine bR (o':=3) bT G G tU q0 G G (Rg.bL (aV cH G G G (by first|assumption|exact dE sO W4) G (Rg.bL (ab G G (Rg.bL (ab G G (Rg.bL (dD (⟨eQ ⟨fk bT G tU q0,⟨dQ G g2 (λh=>h),trivial⟩⟩,?_⟩)))))))));have kp:=fq aA aaU;refine a8 G G E42 (J1 (k:=k) _ hM jy hF k3 (by have:=Vt k (au abt);omega)) (λr15 w15 hc=>?_);obtain⟨pZ,Aa⟩:=hc;have:=ae g2;replace dx:=(Aa.mem _ this).2 dx;replace g2:=Aa.aP g2;replace qx:=qx.le Aa.le;replace dB:=dB.aE Aa;replace fV:=fV.aE Aa;replace dR:=dR.aE Aa;replace jy:=jy.aE Aa;replace hM:=Aa.lt hM;have:=S.size;replace S:=S.aw Aa;refine(fun(kp:eB _ _ _)=>ad ⟨G,G,λ_=>kp,?_⟩) a00;refine dP (A:=((RT.po).sl)) (hn:=by decide) (M:=M3) cH wK q0 G G hM (pZ) (.inr ⟨G,G⟩) (λavY X2 BW lT=>?_);have:=ae g2;replace dx:=(lT.mem _ this).2 dx;replace g2:=lT.aP g2;replace qx:=qx.le lT.le;replace pZ:=pZ.le lT.le
     replace dB:=dB.aE lT;replace fV:=fV.aE lT;replace dR:=dR.aE lT;replace jy:=jy.aE lT;replace hM:=lT.lt hM;have:=S.size;replace S:=S.aw lT;refine(fun(kp:eB _ _ _)=>ad ⟨G,G,λ_=>kp,?_⟩) a00;refine cN (M:=M3) (base:=w0.heap.size) cH wK rfl rfl rfl rfl dR BW bY a03 a03 (S.size) (λSr agX agY abu k8=>?_);have:=ae g2;replace dx:=(k8.mem _ this).2 dx;replace g2:=k8.keep g2 (λh=>by first|exact dR.eU g2 h|exact dR.eu g2 q0 h|(have:=(dR.base _ h).1;omega));replace qx:=qx.le k8.le;replace pZ:=pZ.le k8.le;replace BW:=BW.le k8.le;replace dB:=dB.step k8 (λb h1 h2=>dB.cr dR q0 h1 h2);replace fV:=fV.step k8 (λb h1 h2=>fV.cr dR q0 h1 h2);replace jy:=jy.stepT k8 a47;replace hM:=k8.lt hM;have:=S.size;replace S:=S.cC k8 dR (aN _);replace dR:=abu;refine ad ⟨G,G,λh=>absurd G h,bR (o':=3) bT G G tU q0 G G (ad ⟨G,G,λh=>absurd G h,?_⟩)⟩;refine cF (M:=agX) tU rfl rfl g2 rfl ak3 dx (λagZ Yj tW=>?_);change agZ.heap[_]? =some (Obj.cells #[vi,vs,rk,Sr] _ _)at Yj;have:=ae g2;replace dx:=(tW.mem _ this).2 dx;replace qx:=qx.le tW.le;replace pZ:=pZ.le tW.le;replace BW:=BW.le tW.le;replace dB:=dB.step tW (λc hc (h:c=iY)=>dB.eu g2 q0 (h▸hc));replace fV:=fV.step tW (λc hc (h:c=iY)=>fV.eu g2 q0 (h▸hc));replace dR:=dR.step tW (λc hc (h:c=iY)=>dR.eu g2 q0 (h▸hc))
     replace jy:=jy.stepT tW a47;replace hM:=tW.lt hM;have:=S.size;replace S:=S.trans tW (λk hk h=>by have h:_=_:=h;subst h;first|(exfalso;omega)|(show _<=_;omega)|exact⟨by first|omega|assumption,(S.mem _ hk).1 ((tW.mem _ (ae g2)).1 dx)⟩|exact .inl rfl|exact .inr rfl|exact .inr (.inl rfl)|exact .inr (.inr rfl)|exact .inr (.inr (.inl rfl))|exact rfl);have Bt:=Yj;clear g2;have g2:=Bt;clear Bt;refine ad ⟨G,G,λh=>absurd G h,iu (aH (bG G G G k3 (ab G G (ad ?_))))⟩;refine⟨G,(i3+1,Sr),a19,?_,?_⟩
     ·exact⟨_,hM,S,jy,g2,dx,dB,fV,by rw[bB,abt,bU,cG];exact dR,qx,by dsimp only;omega⟩
     ·dsimp only;omega
    ·refine cO (T.aQ (gJ (vs:=[vi,vs,rk,vl]) bT G E4 G G G g2 ?_));rw[aL k3]at dR;have OY:RT.pa.V M _ (fa L) _:=NX (x:=fa L) (dB.close ir S ah8) (fV.close ir S ah8) (qx.le (CC ir S)) (dR.close ir S (by show((keysOf L).map _).length<=_;rw[ay];omega));replace S:=S.back;replace hM:=S.lt ir;refine a8 G G E43 (BN (p:=fa L) _ hM OY (Mf hF k3)) (λr17 w17 hc=>?_);obtain⟨E3,Ss,_⟩:=hc;obtain⟨sg,rfl,CP⟩:=Ss (R7 hok k3);replace S:=S.aw E3;refine cq G G G (cq G G G (aB G G (Rg.bA G G (aT ?_))));exact fA G G G ⟨sg,G,CP,S⟩
end Go.K
namespace Go.K
open Go.Proofs
set_option maxRecDepth 10000
theorem yO {id:Int}:∀(fs:List Fd) (i:Nat) (out:List Fd),nP (id,out)=0->nP (id,qn id i out fs)=0
 |[],_,_,h=>h
 |x::fs,i,out,h=>by
  unfold qn
  split
  ·split
   ·rename_i h1;exact yO fs _ _ h1
   ·exact yO fs _ _ h
  ·exact h
theorem rK {id:Int}:∀(fs:List Fd) (i:Nat) (out:List Fd),wC out->wC (qn id i out fs)
 |[],_,_,h=>h
 |x::fs,i,out,h=>by
  unfold qn
  split
  ·rename_i hi
   split
   ·exact rK fs _ _ (h.snoc (Bp x hi))
   ·exact rK fs _ _ h
  ·exact h
theorem Oe (d:Dc):nP (rZ d)=0:=yO d.2 0 [] rfl
theorem HB (d:Dc):wC (rZ d).2:=rK d.2 0 [] (λx h=>by cases h)
theorem HC {e:En}:∀{L:List En} {last:Int},wW last (L++[e])=(wW last L&&decide (pf (pB last L) e=0))
 |[],last=>by show(decide (pf last e=0)&&true)=(true&&decide (pf last e=0));rw[Bool.and_true,fK]
 |x::L,last=>by rw[mz];show(decide (pf last x=0)&&wW x.2 (L++[e]))=(decide (pf last x=0)&&wW x.2 L&&decide (pf (pB x.2 L) e=0));rw[HC (L:=L),Bool.and_assoc]
theorem BX {e:En}:∀{L:List En} {last:Int},pB last (L++[e])=e.2
 |[],_=>rfl
 |x::L,last=>by simp only[mz,pB];exact BX
theorem HD (l:List Dc) {a s:Int} (ha:0<=a) (hs:1<=s):∀k,wW (-1) (gP l a s k)=true/\pB (-1) (gP l a s k)<a+s*(k:Int)
 |0=>⟨rfl,by show(-1:Int)<_;simp;omega⟩
 |k+1=>by
  obtain⟨h1,h2⟩:=HD l ha hs k;have e1:a+s*((k+1:Nat):Int)=a+s*(k:Int)+s:=by rw[Int.natCast_add,Int.mul_add];simp;omega
  cases h:l[k]? with
  |none=>rw[Bv (qK.1 h),e1];exact⟨h1,by omega⟩
  |some d=>
   rw[Bu h,HC,BX,h1,e1]
   have:pf (pB (-1) (gP l a s k)) (rZ d,a+s*(k:Int))=0:=by
    unfold pf;rw[if_neg (λh=>h (Oe d)),if_neg (by show¬(a+s*(k:Int)<=_);omega)]
   exact⟨by rw[this];rfl,by show a+s*(k:Int)<_;omega⟩
theorem D1 {l:List Dc} {a s:Int}:∀{k:Nat} {e:En},e∈gP l a s k->∃d,e.1=rZ d
 |0,e,h=>by cases h
 |k+1,e,h=>by
  rw[gP]at h;rcases cP.1 h with h|h
  ·exact D1 h
  ·split at h
   ·rename_i d _;rw[b9.1 h];exact⟨d,G⟩
   ·cases h
theorem BY {l:List Dc} {a s:Int} {k:Nat}:∀e∈gP l a s k,∀f∈e.1.2,f.1.length<=900000/\f.2.length<=900000:=λe he f hf=>by
 obtain⟨d,hd⟩:=D1 he;rw[hd]at hf;have:=HB d f hf;omega
namespace TKPlc
theorem abv:Enters Tryz.prog 176:=enters Tryz.func176 rfl q0
end TKPlc
open TKPlc
set_option maxRecDepth 10000
def iz (fs:List Fd) (k:List UInt8):List (List UInt8):=match fs.find? (λf=>decide (f.1=k))with|some f=>words f.2|none=>[]
theorem tX {fs:List Fd} {k:List UInt8} {i:Nat} {x:Fd} (h:fs[i]? =some x) (hx:x.1=k) (kx:∀(j:Nat) y,j<i->fs[j]? =some y->y.1≠k):iz fs k=words x.2:=by
 have:fs.find? (λf=>decide (f.1=k))=some x:=by
  induction fs generalizing i with
  |nil=>simp at h
  |cons y fs ih=>
   cases i with
   |zero=>simp at h;subst h;simp[hx]
   |succ i=>
    rw[List.find?_cons_of_neg (by simpa using kx 0 y k3 rfl)];exact ih a69 (λj z hj hz=>kx (j+1) z k3 (by simpa using hz))
 unfold iz;rw[this]
theorem HE {fs:List Fd} {k:List UInt8} (h:∀f∈fs,f.1.length<=900000/\f.2.length<=900000):(iz fs k).length<=900001:=by
 unfold iz
 split
 ·rename_i f hf
  have:=n0 f.2;have:=(h f (List.mem_of_find?_eq_some hf)).2;omega
 ·simp
theorem E8 {fs:List Fd} {k:List UInt8} (kx:∀y∈fs,y.1≠k):iz fs k=[]:=by
 unfold iz;rw[List.find?_eq_none.2 λy hy=>by simpa using kx y hy]
def C4 (ws:List (List UInt8)) (x:List UInt8):List Int:=(ws.zipIdx.filter λp=>decide (p.1=x)).map λp=>(p.2:Int)
theorem D2 {ws:List (List UInt8)} {x y:List UInt8} {i:Nat} (h:ws[i]? =some y):C4 (ws.take (i+1)) x=if y=x then C4 (ws.take i) x++[(i:Int)]else C4 (ws.take i) x:=by
 have hi:=(aj.1 h).1;unfold C4;rw[bB,h,bU,List.zipIdx_append,jK,cG];simp only[aU,jB (Nat.le_of_lt hi),fh,List.zipIdx_cons,List.zipIdx_nil];by_cases e:y=x
 ·rw[if_pos e];simp[e]
 ·rw[if_neg e];simp[e]
theorem BZ (ws:List (List UInt8)) (x:List UInt8):(C4 ws x).length<=ws.length:=by
 unfold C4;rw[ay];exact eG (fz _ _) (by simp)
theorem zE {M:aJ} {d:Dc} {k:List UInt8} {v0:Value} (w0:World) (hM:Lt M w0) (hd:RT.dc.V M w0 d v0) (hlen:∀f∈d.2,f.1.length<=900000/\f.2.length<=900000) (hdl:d.2.length<=1000000):
  Spec Tryz.prog 176 #[v0,sv k] w0 (λv w=>(RT.str.sl).V M w (iz d.2 k) v/\Step M w0 M w aA):=by
 have ir:=hM;refine bF (args:=[_,_]) (fn:=Tryz.f176) Tryz.func176 G (n:=28) Tryz.ntmps176 ?_;have S:Step M w0 M w0 aA:=bz;refine T.aQ ?_;refine kB (A:=RT.dc) (a:=d) G G hM hd G (λu0 w1 dT s0 _=>?_);replace hM:=s0.lt hM;have:=S.size;replace S:=S.aw s0;refine Rg.bA G G (aI (T.aQ (Rg.bA G G (aS ?_))));refine dg (σ:=Nat) (λi=>[(1,sv k),(2,u0),(5,.int .i64 (i:Int))]) (λi w=>Step M w0 M w aA/\dv RT.dc M w u0 d/\i<=d.2.length/\(∀(j:Nat) y,j<i->d.2[j]? =some y->y.1≠k)) (λi=>d.2.length-i) 0 a06 ?_ ?_
 ·exact⟨S,dT,bC _,λj y h=>absurd h (tc _)⟩
 ·clear S dT hM;rintro i w ⟨S,dT,hi,kx⟩;have hM:=S.lt ir;refine aI (T.aQ (ab G G ?_));refine aD (A:=RT.dc) (B:=(RT.fd).sl) bg G G uU q0 EI G G q0 dT bY (λu21 St=>?_);refine bE bD G G G G G St bY (λv22 HF=>?_);refine bK bD G HF G (ch G G G (ad ?_));refine bM G (λc2=>?_) (λc2=>?_)
  ·refine aR (aI (aS (T.aQ ?_)));obtain⟨fx,kR⟩:∃x,d.2[i]? =some x:=⟨_,al k3⟩;have Dq:=hlen _ (au kR);refine aD (A:=RT.dc) (B:=(RT.fd).sl) bg G G uU q0 EI G G q0 dT bY (λu40 Su=>?_);refine bE bD G G G G G Su bY (λv41 pO=>?_);refine ab G G ?_;refine bX bD ly G G G pO bY k3 (λu43 x eo Sv=>?_);rw[an]at eo;obtain rfl:=ar (kR.symm.trans eo);refine aD (A:=RT.fd) (B:=RT.str) cT G G I9 q0 Qr G G q0 Sv bY (λu44 apH=>?_);refine bE aG G G G G G apH bY (λv45 apI=>?_);obtain rfl:=fp apI;refine ab G G (Rg.xa G G G (ad ?_));refine bM G (λc4=>?_) (λc4=>?_)
   ·refine T.aQ ?_;refine aD (A:=RT.dc) (B:=(RT.fd).sl) bg G G uU q0 EI G G q0 dT bY (λu50 abw=>?_);refine bE bD G G G G G abw bY (λv51 abx=>?_);refine ab G G ?_;refine bX bD ly G G G abx bY k3 (λu53 x eo xL=>?_);rw[an]at eo;obtain rfl:=ar (kR.symm.trans eo);refine aD (A:=RT.fd) (B:=RT.str) cT G G I9 q0 fd1 G G q0 xL bY (λu54 Sw=>?_);refine bE aG G G G G G Sw bY (λv55 apJ=>?_);obtain rfl:=fp apJ;refine a8 G G aeC (zw _ hM Dq.2) (λr6 w6 hc=>?_);obtain⟨hr6,s6⟩:=hc;replace dT:=dT.le q0 s6.le;replace hM:=s6.lt hM;have:=S.size;replace S:=S.aw s6;refine Rg.bA G G (aT ?_);exact aX rfl rfl ⟨by rw[tX kR c4 kx];exact hr6,S⟩
   ·refine aR (aH (ab G G (bG G G G k3 (Rg.bA G G ?_))));refine⟨G,i+1,a06,?_,?_⟩
    ·exact⟨S,dT,by omega,λj y hj hy=>by
      rcases cQ j i with h|h
      ·exact kx j y h hy
      ·rw[show j=i by omega,kR]at hy;cases hy;exact c4⟩
    ·omega
  ·refine cO (T.aQ (Rg.bA G G (aT ?_)));exact aX rfl rfl ⟨by rw[E8 (λy hy=>by obtain⟨j,hj⟩:=bQ.1 hy;exact kx j y (by have:=(aj.1 hj).1;omega) hj)];exact mX,S⟩
theorem HG {M:aJ} {d:Dc} {t:Fd} {v0 v1:Value} (w0:World) (hM:Lt M w0) (hd:RT.dc.V M w0 d v0) (hlen:∀f∈d.2,f.1.length<=900000/\f.2.length<=900000) (hdl:d.2.length<=1000000) (ht:RT.fd.V M w0 t v1):
  Spec Tryz.prog 121 #[v0,v1] w0 (λv w=>((RT.int .i64).sl).V M w (C4 (iz d.2 t.1) t.2) v/\Step M w0 M w aA):=by
 have ir:=hM;have Ga:=Qu ht;refine bF (args:=[_,_]) (fn:=Tryz.f121) Tryz.func121 G (n:=30) Tryz.ntmps121 ?_;have S:Step M w0 M w0 aA:=bz;refine T.aQ ?_;refine kB (A:=RT.dc) (a:=d) G G hM hd G (λu0 w1 dT s0 _=>?_);replace hd:=hd.le s0.le;replace ht:=ht.le s0.le;replace hM:=s0.lt hM;have:=S.size;replace S:=S.aw s0;refine kB (A:=RT.fd) (a:=t) G G hM ht G (λu1 w2 o5 s1 _=>?_);replace ht:=ht.le s1.le;replace dT:=dT.le q0 s1.le;replace hM:=s1.lt hM;have:=S.size;replace S:=S.aw s1;refine Rg.bA G G (T.aQ (Rg.bA G G (T.aQ ?_)));refine cW (A:=RT.dc) bg G nY q0 G G G dT bY (λv20 apK=>?_);refine aD (A:=RT.fd) (B:=RT.str) cw G G I9 q0 Qr G G q0 o5 bY (λu21 St=>?_);refine bE aG G G G G G St bY (λv22 HF=>?_);obtain rfl:=fp HF;refine a8 G G abv (zE _ hM apK hlen hdl) (λr2 w2' hc=>?_);obtain⟨lr,s2⟩:=hc;have hwl:=HE (k:=t.1) hlen;replace dT:=dT.le q0 s2.le;replace o5:=o5.le q0 s2.le;replace hM:=s2.lt hM;have:=S.size;replace S:=S.aw s2;refine Rg.bA G G (aI (T.aQ (Rg.bA G G (aS ?_))));refine dg (σ:=Nat×Value) (λq=>[(3,u1),(5,q.2),(6,r2),(7,.int .i64 (q.1:Int))]) (λq w=>∃M',Lt M' w/\Step M w0 M' w aA/\Own (RT.int .i64) 3 M' w w0.heap.size q.2 (C4 ((iz d.2 t.1).take q.1) t.2)/\(RT.str.sl).V M' w (iz d.2 t.1) r2/\dv RT.fd M' w u1 t/\q.1<=(iz d.2 t.1).length) (λq=>(iz d.2 t.1).length-q.1) (0,.slice none 0 0) Y7 ?_ ?_
 ·exact⟨M,hM,S,dh _ _ _ _ _,lr,o5,bC _⟩
 ·clear S dT o5 lr hM;rintro⟨i,u⟩ w ⟨M1,hM,S,ho,lr,o5,hi⟩;dsimp only at ho hi ⊢;refine aI (T.aQ (ab G G (ab G G (bK az G lr G (ch G G G (ad ?_))))));refine bM G (λc4=>?_) (λc4=>?_)
  ·refine aR (aI (aS (aI ?_)));apply jU mixed rfl rfl;intro X5 V9;have o6:=V9 M1;replace lr:=lr.le o6.le;replace o5:=o5.le q0 o6.le;replace ho:=ho.aE o6;replace hM:=o6.lt hM;have:=S.size;replace S:=S.aw o6;refine ab G G (Rg.bL (ab G G (Rg.bL ?_)));obtain⟨y,kR⟩:∃y,(iz d.2 t.1)[i]? =some y:=⟨_,al k3⟩;refine bX az I9 G G G lr bY k3 (λu62 y' eo aby=>?_);rw[an]at eo;obtain rfl:=ar (kR.symm.trans eo);refine Rg.bL ?_;refine bE aG G G G G G aby bY (λv63 abz=>?_);obtain rfl:=fp abz;refine Rg.bL ?_;refine aD (A:=RT.fd) (B:=RT.str) cw G G I9 q0 fd1 G G q0 o5 bY (λu64 Sx=>?_);refine Rg.bL ?_;refine bE aG G G G G G Sx bY (λv65 apL=>?_);obtain rfl:=fp apL;refine Rg.bL (Rg.xa G G G (Rg.bL (dD ?_)));refine bM G (λc6=>?_) (λc6=>?_)
   ·refine aH (ab G G (ab G G ?_));refine dP (A:=RT.int .i64) (hn:=by decide) (M:=M1) ah I3 q0 G G hM (gw k3) (.inr ⟨G,G⟩) (λafK anw vG yJ=>?_);replace lr:=lr.le yJ.le;replace o5:=o5.le q0 yJ.le;replace ho:=ho.aE yJ;replace hM:=yJ.lt hM;have:=S.size;replace S:=S.aw yJ;refine cN (M:=M1) (base:=w0.heap.size) ah I3 G G G G ho vG bY (by have:=BZ ((iz d.2 t.1).take i) t.2;rw[aU]at this;simp;omega) (by have:=BZ ((iz d.2 t.1).take i) t.2;rw[aU]at this;simp;omega) (S.size) (λaff apM ag0 ag1 xM=>?_);replace lr:=lr.le xM.le;replace o5:=o5.le q0 xM.le;replace vG:=vG.le xM.le;replace hM:=xM.lt hM;have:=S.size;replace S:=S.cC xM ho (aN _);replace ho:=ag1;refine Rg.bA G G (aH (ab G G (bG G G G k3 (Rg.bA G G ?_))));refine⟨G,(i+1,aff),Y7,?_,?_⟩
    ·exact⟨apM,hM,S,by dsimp only;rw[D2 kR,if_pos c6];exact ho,lr,o5,by dsimp only;omega⟩
    ·dsimp only;omega
   ·refine aR (aH (ab G G (bG G G G k3 (Rg.bA G G ?_))));refine⟨G,(i+1,u),Y7,?_,?_⟩
    ·exact⟨M1,hM,S,by dsimp only;rw[D2 kR,if_neg c6];exact ho,lr,o5,by dsimp only;omega⟩
    ·dsimp only;omega
  ·refine cO (T.aQ (ab G G (Rg.bA G G (aT ?_))));rw[aL k3]at ho;exact aX G G ⟨ho.close ir S (by have:=BZ (iz d.2 t.1) t.2;omega),S.back⟩
end Go.K
namespace Go.K
variable {P:Program} {r:Option Nat} {n:Nat} {L:Sl} {ds:List Deferred} {w:World} {K:Kt} {ops:Array Oper} {rest:List Oper} {d:Nat} {x y:Operand} {ty:TypeId} {pos:String} {af:Array Edge} {α:Type} {A:RT α}
def C5 {α:Type} (A:RT α):Prop:=∀(M M':aJ) (w w':World) (x:α) (vs:List Value),A.R M w x vs->A.R M' w' x vs
theorem eX.Wa {M M':aJ} {w w':World} (hA:C5 A):∀{xs:List α} {C:List Value},eX A M w xs C->eX A M' w' xs C
 |[],_,h=>h
 |_::_,_,⟨vs,rest,h1,h2,h3⟩=>⟨vs,rest,h1,hA _ _ _ _ _ _ h2,eX.Wa hA h3⟩
theorem Own.Sy {e:TypeId} {M M2:aJ} {w':World} {base:Nat} {v:Value} {xs:List α} (hA:C5 A) (h:Own A e M2 w' base v xs) (s:Step M w M2 w' aA) (hb:w.heap.size<=base) (M1:aJ):Own A e (ji M1 v) w' base v xs/\Step M1 w (ji M1 v) w' aA:=by
 have Lv:=h.base;obtain⟨⟨C,hr,ha⟩,hm⟩:=h;refine⟨⟨⟨C,hr,ha.Wa hA⟩,λb hb=> .inl hb⟩,λhl b Lu=>?_,s.os,s.tape,s.output,s.size,λb Lu=>⟨λh=>h.resolve_left λe=>by have:=(Lv b e).1;omega,.inr⟩,s.same,λb h=>h.elim⟩;rcases Lu with h|h
 ·exact(Lv b h).2
 ·exact k9 (hl b h) s.size
theorem Own.Ko {hn:0<A.n} {e:TypeId} {M M1 M2:aJ} {w':World} {base:Nat} {v:Value} {xs:List α} (hA:C5 A) (h:Own A e M2 w' base v xs) (s:Step M w M2 w' aA) (hb:w.heap.size<=base) (hM:Lt M1 w) (hlen:xs.length<=140737488355328):(A.sl hn).V M1 w' xs v/\Step M1 w M1 w' aA:=by
 have Lv:=h.base;obtain⟨h1,h2⟩:=h.Sy hA s hb M1;exact⟨h1.sl (λb _ JG=>⟨λh=>JG (.inr h),rfl⟩) (λb Ey hM'=>by have h3:=(Lv b Ey).1;have h4:=hM b hM';omega) hlen,s.any M1⟩
end Go.K
namespace Go.K
section
variable {P:Program} {r:Option Nat} {n:Nat} {L:Sl} {ds:List Deferred} {w:World} {K:Kt} {ops:Array Oper} {rest:List Oper} {d:Nat} {x y:Operand} {ty:TypeId} {pos:String} {af:Array Edge}
theorem nQ {t:TypeId} (ht:P.underlying t=some .string) {cs:Array Value} {off:Nat} {v:Value} (hv:cs[off]? =some v):(part t cs off).run P w= .ok v w:=by
 have Eh:(isAgg t).run P w= .ok false w:=by
  unfold isAgg;rw[cA,run_underlying ht w];simp
 unfold part;rw[cA,Eh];simp[hv]
theorem HH {t:TypeId} {f g:Field} {k:Nat} {xs ys:Array Value} {a b a' b':Value} {c e:Bool} (ht:P.underlying t=some (.struct #[f,g])) (hp:P.stoodInHeld t=false) (hn:f.name≠ "_") (JG:g.name≠ "_")
  (p1:(part f.type xs f.offset).run P w= .ok a w) (p2:(part f.type ys f.offset).run P w= .ok b w) (p3:(part g.type xs g.offset).run P w= .ok a' w) (p4:(part g.type ys g.offset).run P w= .ok b' w)
  (h1:(Op.equalIn k f.type a b).run P w= .ok c w) (h2:(Op.equalIn k g.type a' b').run P w= .ok e w):(Op.equalIn (k+1) t (.agg xs) (.agg ys)).run P w= .ok (c&&e) w:=by
 have Zo:P.fieldsOf t= #[f,g]:=by simp[Program.fieldsOf,ht]
 rw[run_equalIn_struct (P:=P) w k t xs ys (by rw[Zo];exact ht) hp,Zo];simp only[Op.eqFields,hn,JG,ne_eq,not_false_eq_true,if_true,cA,p1,p2,p3,p4,h1,h2,dd]
 cases c
 ·simp
 ·simp only[Bool.not_true,Bool.false_eq_true,if_false,cA,p3,p4,h2,dd]
  cases e<;>simp
theorem Ml (a b:List UInt8):((⟨a.toArray⟩:ByteArray).toList==(⟨b.toArray⟩:ByteArray).toList)=decide (a=b):=by
 rw[ByteArray.toList_eq,ByteArray.toList_eq];show(a==b)=_;by_cases h:a=b
 ·subst h;simp
 ·simp[h]
end
open Go.Proofs
set_option maxRecDepth 10000
def gx (l:List Bool):List Int:=(l.zipIdx.filter λp=>p.1).map λp=>(p.2:Int)
theorem Kp {l:List Bool} {b:Bool} {i:Nat} (h:l[i]? =some b):gx (l.take (i+1))=if b=true then gx (l.take i)++[(i:Int)]else gx (l.take i):=by
 have hi:=(aj.1 h).1;unfold gx;rw[bB,h,bU,List.zipIdx_append,jK,cG];simp only[aU,jB (Nat.le_of_lt hi),fh,List.zipIdx_cons,List.zipIdx_nil]
 cases b<;>simp
theorem od (l:List Bool):(gx l).length<=l.length:=by
 unfold gx;rw[ay];exact eG (fz _ _) (by simp)
end Go.K

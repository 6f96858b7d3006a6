/- What the law 'MatchParts' needs of walks and plain Lean, part 5: nothing is assumed beyond the texts that it imports. -/
import Derived.KernelRfl
import Derived.Test.YtaobajlebdchhaaGreatDoorProg
import Derived.Test.YtaobajlebdchhaaGreatDoorZMatchParts1
import Derived.Test.YtaobajlebdchhaaGreatDoorZMatchParts2
import Derived.Test.YtaobajlebdchhaaGreatDoorZMatchParts3
import Derived.Test.YtaobajlebdchhaaGreatDoorZMatchParts4
set_option linter.unusedVariables false
set_option linter.unusedSimpArgs false
namespace Go.K
open Go.Proofs
namespace TKSet
theorem DS:TI Tryz.prog 126 (.slice none 0 0) 1 24:=by unfold TI;kernel_rfl
theorem akU:TI Tryz.prog 128 (.agg #[(.int .i64 0),(.slice none 0 0)]) 2 32:=by unfold TI;kernel_rfl
theorem vP:TI Tryz.prog 205 (.int .u64 0) 1 8:=by unfold TI;kernel_rfl
theorem akV:placesOf Tryz.prog 128=[(0,1),(1,1)].map some:=by kernel_rfl
theorem E61:Enters Tryz.prog 61:=enters Tryz.func61 rfl q0
theorem E64:Enters Tryz.prog 64:=enters Tryz.func64 rfl q0
theorem adv:Enters Tryz.prog 114:=enters Tryz.func114 rfl q0
end TKSet
open TKSet
set_option maxRecDepth 10000
theorem BU {w0:World} {k m x:Nat} (tab:∃e fr,w0.heap[1]? =some (.cells (Hl.map fun(k:Nat)=>Value.int .u8 (k:Int)).toArray e fr)) (hx:x=2^k*(2*m+1)) (hl:x<2^64):
  Spec Tryz.prog 274 #[.int .u64 x] w0 (λv' w'=>v'= .int .i64 k/\w0=w'):=by
 obtain⟨et,ft,tab⟩:=tab;have hp:=Nat.two_pow_pos k;have y9:0<x:=by rw[hx];exact Nat.mul_pos hp hV
 have Vu:2^k<=x:=by rw[hx];exact Nat.le_mul_of_pos_right _ hV
 have hk:k<64:=by
  rcases cT k 64 with h2|h2
  ·exact h2
  ·have:=yt (n:=2) q0 h2;omega
 obtain⟨hd1,hd2⟩:=Ww k hk;have oO:((Hl.map fun(k:Nat)=>Value.int .u8 (k:Int)).toArray)[(2^k*285870213051353865)%2^64/2^58]? =some (.int .u8 (k:Int)):=by rw[mE,eX,hd2];rfl
 refine bD (args:=[_]) (fn:=Tryz.f274) Tryz.func274 G (n:=14) Tryz.ntmps274 (T.aU (Rg.a8 G G (aQ (T.aU (ab G G (je G G G (ad (T.MM G (hV) ?_))))))));refine aM (T.aU (ab rfl rfl (ab rfl rfl (Rg.agN rfl rfl (aZ (v':= .int .u64 ((2^64-x:Nat):Int)) (by rw[show(0:Int)-(x:Int)=((2^64-x:Nat):Int)-18446744073709551616 from by omega];simp[IntKind.wrap,IntKind.bits,IntKind.signed];omega) (Rg.and rfl rfl rfl (aZ (v':= .int .u64 ((2^k:Nat):Int)) (by rw[Hk x (2^64-x) hl hV,hx,Sh hV]) (Rg.agi rfl rfl rfl (aZ (v':= .int .u64 (((2^k*285870213051353865)%2^64:Nat):Int)) (congrArg _ (by rw[show((2^k:Nat):Int)*285870213051353865=((2^k*285870213051353865:Nat):Int)from by rw[Int.natCast_mul];rfl];exact Dh _)) (Rg.shr G G G q0 ?_))))))))));refine aZ (v':= .int .u64 (((2^k*285870213051353865)%2^64/2^58:Nat):Int)) (congrArg _ (Wx _ 58 q0)) (Rg.Wv (len:=64) Tryz.underlying389 I5 G G G hV (aR (v:= .int .u8 (k:Int)) dq rfl rfl rfl tab (by rw[av];exact oO) (Rg.wO dq al G G hV (Rg.a8 G G (aS ?_)))));exact ao2
theorem J4 {M:aP} {w0:World} {n:Nat} {ws:List Nat} {bs bw:Nat} (h:jY 128 205 n ws M w0 bs bw) {i:Int}:
  Spec Tryz.prog 114 #[.pointer (some ⟨bs,0,none⟩),.int .i64 i] w0 (λv' w'=>v'= .bool (decide (0<=i/\i<n))/\w0=w'):=by
 have hS:=h.s;have hW:=h.w;have hlen:=h.len;have fh:=h.ok;have Us:=h.nn;refine bD (args:=[_,_]) (fn:=Tryz.f114) Tryz.func114 G (n:=15) Tryz.ntmps114 (T.aU (Rg.a8 G G (T.aU (ab G G (cu G G G (ab G G ?_))))));refine aB (g:=7) G (λja=>?_) (λja=>?_)
 ·refine ae G G (ab G G (ae G G (ab G G (ae G G (bu G ⟨_,G⟩ G (ae G G (a7 fW G G I3 q0 G G (ae G G (aR al G G G VR G (ae G G (cH G G G ?_)))))))))));refine aN G G G (Rg.a8 G G (aS ?_))
  first
  |exact a69
  |exact a68
 ·refine aj G G G G (aj G G G G (aj G G G G (aj G G G G (aj G G G G (aj G G G G (au G G G (Rg.a8 G G (aS ?_))))))))
  first
  |exact a69
  |exact a68
theorem Qf {M:aP} {w0:World} {n:Nat} {ws:List Nat} {bs bw:Nat} (h:jY 128 205 n ws M w0 bs bw) {i:Int}:
  Spec Tryz.prog 64 #[.pointer (some ⟨bs,0,none⟩),.int .i64 i] w0 (λv' w'=>v'= .bool (UF n ws i)/\w0=w'):=by
 have hS:=h.s;have hW:=h.w;have hlen:=h.len;have fh:=h.ok;have Us:=h.nn;refine bD (args:=[_,_]) (fn:=Tryz.f64) Tryz.func64 G (n:=23) Tryz.ntmps64 (T.aU (Rg.a8 G G (T.aU (ab G G (ab G G ?_)))));refine aV G G adv (J4 h) (λr wc h=>?_);obtain⟨rfl,rfl⟩:=h;refine ab G G ?_;refine aB (g:=8) G (λkZ=>?_) (λkZ=>?_)
 ·obtain⟨j,rfl⟩:∃j:Nat,i=j:=⟨i.toNat,by omega⟩;refine ae G G (ab G G (ae G G (bu G ⟨_,G⟩ G (ae G G (a7 fW G G DS q0 G G (ae G G (aR dW G G G VR G (ae G G (ab G G (ae G G (Rg.zd G G G hV ?_)))))))))));refine ae G G (Rg.Df dW vP G G G hV (ae rfl rfl (aR th rfl rfl rfl hW (v:= .int .u64 ((ws.getD (j/64) 0:Nat):Int)) (by rw[show(((j:Int)/64)).toNat=j/64 from by omega];exact jJ hV) (ae G G (ab G G (ae G G (Rg.yx G G G hV (ae G G (Rg.shr G G G hV (aZ (v':= .int .u64 ((ws.getD (j/64) 0/2^(j%64):Nat):Int)) (congrArg _ (by rw[show((j:Int)%64)=((j%64:Nat):Int)from by omega];exact Wx _ _ hV)) (ae G G ?_)))))))))));refine Rg.and G G G (aZ (v':= .int .u64 ((ws.getD (j/64) 0/2^(j%64)%2:Nat):Int)) (congrArg _ (by have:=Hk (ws.getD (j/64) 0/2^(j%64)) 1 (Nat.lt_of_le_of_lt (Nat.div_le_self _ _) (fh.get _)) q0;rw[Nat.and_one_is_mod]at this;exact this)) (ae G G (je G G G (aN G G G (Rg.a8 G G (aS ?_))))))
  first
  |exact aT G G ⟨congrArg Value.bool al9,G⟩
  |exact aT G G ⟨congrArg Value.bool (by unfold UF;rw[decide_eq_false kZ,eT]),rfl⟩
 ·refine aj G G G G (aj G G G G (aj G G G G (aj G G G G (aj G G G G (aj G G G G (aj G G G G (aj G G G G (aj G G G G (aj G G G G (aj G G G G (aj G G G G ?_)))))))))));refine aj G G G G (au G G G (Rg.a8 G G (aS ?_)))
  first
  |exact aT G G ⟨congrArg Value.bool al9,G⟩
  |exact aT G G ⟨congrArg Value.bool (by unfold UF;rw[decide_eq_false kZ,eT]),rfl⟩
theorem Qg {M:aP} {w0:World} {n:Nat} {ws:List Nat} {bs bw:Nat} (h:jY 128 205 n ws M w0 bs bw) {i:Int} (hb:∀j,bit ws j=true->j<n):
  Spec Tryz.prog 61 #[.pointer (some ⟨bs,0,none⟩),.int .i64 i,.bool true] w0 (λv' w'=>∃yO,jY 128 205 n yO M w' bs bw/\(∀j:Nat,bit yO j=(bit ws j&&decide ((j:Int)≠i)))/\Step M w0 M w' (λb=>b=bw)):=by
 have hS:=h.s;have hW:=h.w;have hlen:=h.len;have fh:=h.ok;have Us:=h.nn;have hmw:∀b:Nat,b=bw->M b:=λb hb=>by rw[hb];exact h.mw
 refine bD (args:=[_,_,_]) (fn:=Tryz.f61) Tryz.func61 G (n:=31) Tryz.ntmps61 (T.aU (Rg.a8 G G (aQ (T.aU (ab G G (ab G G ?_))))));refine aV G G adv (J4 h) (λr wc h=>?_);obtain⟨rfl,rfl⟩:=h;refine jd G G (aZ (v':= .bool (decide (¬(0<=i/\i<n)))) (by rw[decide_not]) (ab G G ?_));refine aB (g:=11) G (λTM=>?_) (λTM=>?_)
 ·refine aj G G G G (aj G G G G (aj G G G G (aj G G G G (aj G G G G (aN G G G (ad (iz G (T.aU (Rg.a8 G G ?_)))))))));refine aS ?_
  have Mt:bit ws i.toNat=false\/i<0:=by
   by_cases h0:i<0
   ·exact .inr h0
   ·left
    cases WM:bit ws i.toNat with
    |false=>rfl
    |true=>
     have:=hb _ WM
     first
     |omega
     |(exfalso;apply c1;unfold UF;rw[WM,decide_eq_true hV];rfl)
  refine aT G G ⟨ws,h,λj=>?_,(bg).eE a30 hmw⟩;by_cases hj:(j:Int)=i
  ·rw[decide_eq_false (λh=>h hj),Bool.and_false];rcases Mt with h1|h1
   ·rw[show i.toNat=j from by omega]at h1;exact h1
   ·omega
  ·rw[decide_eq_true hj,mq]
 ·refine ae G G (ab G G (ae G G (ab G G (ae G G ?_))));refine aV G G E64 (Qf h) (λr wc h=>?_);obtain⟨rfl,rfl⟩:=h;refine ae G G (ab G G (ae G G (Rg.bne Bv G G G (au G G G (ad ?_)))));refine bH G (λc1=>?_) (λc1=>?_)
  ·refine T.aU (Rg.a8 G G (aS ?_))
   have Mt:bit ws i.toNat=false\/i<0:=by
    by_cases h0:i<0
    ·exact .inr h0
    ·left
     cases WM:bit ws i.toNat with
     |false=>rfl
     |true=>
      have:=hb _ WM
      first
      |omega
      |(exfalso;apply c1;unfold UF;rw[WM,decide_eq_true hV];rfl)
   refine aT G G ⟨ws,h,λj=>?_,(bg).eE a30 hmw⟩;by_cases hj:(j:Int)=i
   ·rw[decide_eq_false (λh=>h hj),Bool.and_false];rcases Mt with h1|h1
    ·rw[show i.toNat=j from by omega]at h1;exact h1
    ·omega
   ·rw[decide_eq_true hj,mq]
  ·refine aM (aQ ?_);obtain⟨j,rfl⟩:∃j:Nat,i=j:=⟨i.toNat,by omega⟩;apply T.sN (M:=M) mixed [] [cy.eq _,cy.eq _,cy.eq _,cy.eq (.slice (some ⟨bw,0,none⟩) ws.length ws.length),cy.eq _,cy.eq _,cy.eq (.pointer (some ⟨bw,((j:Int)/64).toNat,none⟩)),cy.eq (.int .u64 ((ws.getD (j/64) 0:Nat):Int)),cy.eq _,cy.eq _,cy.eq (.int .u64 ((2^(j%64):Nat):Int)),cy.eq (.int .u64 (((ws.getD (j/64) 0^^^2^(j%64)):Nat):Int)),cy.eq (.pointer (some ⟨bw,((j:Int)/64).toNat,none⟩))] 13
   ·rfl
   ·rfl
   ·rfl
   ·rfl
   ·rfl
   ·exact a90
   ·exact sh
   ·refine aD ?_ ?_
    ·intro wD E sD;refine ab G G ?_;exact VT
    refine aD ?_ ?_
    ·intro wD E sD;refine aA (bu G ⟨_,G⟩ G ?_);exact VT
    refine aD ?_ ?_
    ·intro wD E sD;refine aA (a7 fW G G DS q0 G G ?_);exact VT
    refine aD ?_ ?_
    ·intro wD E sD;refine aA (aR dW G G G (cp sD VR) G ?_);exact VT
    refine aD ?_ ?_
    ·intro wD E sD;refine ab G G ?_;exact VT
    refine aD ?_ ?_
    ·intro wD E sD;refine aA (Rg.zd G G G hV ?_);exact VT
    refine aD ?_ ?_
    ·intro wD E sD;refine aA (aA (Rg.Df dW vP G G G hV ?_));exact VT
    refine aD ?_ ?_
    ·intro wD E sD;refine aA (aR th rfl rfl rfl (sD.aF hW) (v:= .int .u64 ((ws.getD (j/64) 0:Nat):Int)) (by rw[show(((j:Int)/64)).toNat=j/64 from by omega];exact jJ hV) ?_);exact VT
    refine aD ?_ ?_
    ·intro wD E sD;refine ab G G ?_;exact VT
    refine aD ?_ ?_
    ·intro wD E sD;refine aA (Rg.yx G G G hV ?_);exact VT
    refine aD ?_ ?_
    ·intro wD E sD;refine aA (Rg.shl G G G hV (aZ (v':= .int .u64 ((2^(j%64):Nat):Int)) (congrArg _ (by rw[show((j:Int)%64)=((j%64:Nat):Int)from by omega];exact aaR _ hV)) ?_));exact VT
    refine aD ?_ ?_
    ·intro wD E sD;refine aA (aA (Rg.xor G G G (aZ (v':= .int .u64 (((ws.getD (j/64) 0^^^2^(j%64)):Nat):Int)) (congrArg _ (aaQ _ _ (fh.get _) (Nat.pow_lt_pow_right q0 hV))) ?_)));exact VT
    refine aD ?_ ?_
    ·intro wD E sD;refine aA (aA (aA (aA (aA (aA (aA (aA (aA (aA (aA (aA ?_)))))))))));refine aA (aA (Rg.Df dW vP G G G hV ?_));exact VT
    exact kI
   ·intro wD3 qC;refine aA (aA (aA (aA (aA (aA (aA (aA (aA (aA (aA (aA ?_)))))))))));refine aA ?_;refine cA (M:=M) (u:= .int .u64 ((ws.getD (j/64) 0:Nat):Int)) vP rfl rfl (qC.aF hW) (by rw[show((j:Int)/64).toNat=j/64 from by omega];exact jJ hV) G h.mw (λw5 hW5 s5=>?_);rw[show((j:Int)/64).toNat=j/64 from by omega,tH]at hW5;refine ad (T.aU (Rg.a8 G G (aS ?_)));have hX:(ws.getD (j/64) 0^^^2^(j%64))<2^64:=Nat.xor_lt_two_pow (fh.get _) (Nat.pow_lt_pow_right q0 hV);refine aT G G ⟨ws.set (j/64) (ws.getD (j/64) 0^^^2^(j%64)),(h.step qC (λh=>h) (λh=>h)).put s5 (by simp) hW5 (fh.set hX),λt=>?_,(qC.eE a30 hmw).trans s5 (λ_ _ h=>h)⟩
    have akX:bit ws j=true:=by
     have:=cF.1 c1;unfold UF at this;rw[av,cC]at this;exact this.2
    rw[Nu fh hV];by_cases ht:t=j
    ·subst ht;rw[akX];simp
    ·rw[decide_eq_false ht,Bool.xor_false,decide_eq_true hV,mq]
theorem Qh {M:aP} {w0:World} {n:Nat} {ws:List Nat} {bs bw:Nat} (h:jY 128 205 n ws M w0 bs bw) {i:Int} (hb:∀j,bit ws j=true->j<n):
  Spec Tryz.prog 119 #[.pointer (some ⟨bs,0,none⟩),.int .i64 i] w0 (λv' w'=>∃yO,jY 128 205 n yO M w' bs bw/\(∀j:Nat,bit yO j=(bit ws j&&decide ((j:Int)≠i)))/\Step M w0 M w' (λb=>b=bw)):=by
 refine bD (args:=[_,_]) (fn:=Tryz.f119) Tryz.func119 G (n:=8) Tryz.ntmps119 (T.aU (Rg.a8 G G (T.aU (ab G G (ab G G ?_)))));refine aV G G E61 (Qg h hb) (λr1 w1 h=>?_);obtain⟨yO,h1,h2,h3⟩:=h;refine Rg.a8 G G (aS ?_);exact aT G G ⟨yO,h1,h2,h3⟩
theorem CH {M:aP} {w0:World} {n:Nat} (hn:n<=1099511627776):
  Spec Tryz.prog 20 #[.int .i64 n] w0 (λv' w'=>∃bs bw,v'= .pointer (some ⟨bs,0,none⟩)/\w0.heap.size<=bs/\w0.heap.size<=bw/\Step M w0 (ins (ins M bw) bs) w' aH/\jY 128 205 n (List.replicate ((n+63)/64) 0) (ins (ins M bw) bs) w' bs bw):=by
 refine bD (args:=[_]) (fn:=Tryz.f20) Tryz.func20 G (n:=13) Tryz.ntmps20 (T.aU (Rg.a8 G G (T.aU (ab G G (Rg.max2 G G G (aZ (v':= .int .i64 n) (congrArg _ hV) (Rg.a8 G G ?_)))))));refine T.aU (ab G G (ab G G (aX G G G hV (iQ G G G hV (Rg.zd G G G hV (aZ (v':= .int .i64 (((n+63)/64:Nat):Int)) (congrArg _ hV) ?_))))));refine Rg.mk0 M dW vP G G G G hV hV (λbw w1 z1 z1' h1 s1=>?_);refine cx (places:=[(0,1),(1,1)]) fW akU akV rfl ⟨_,_,rfl,rfl,_,_,rfl,rfl,rfl⟩ (out:=[_,_]) ⟨0,[_],rfl,rfl,by simp[Value.cells],1,[_],rfl,rfl,by simp[Value.cells],rfl⟩ ?_;refine qu (ins M bw) G G (λbs w2 z2 z2' h2 s2=>?_);have y1:=s1.size;refine Rg.a8 G G (aS ?_);refine aT rfl rfl ⟨bs,bw,rfl,by omega,z1,s1.ar s2,.inl rfl,.inr (.inl rfl),by omega,by rw[List.length_replicate];exact h2,?_,by simp,λx hx=>by rw[List.eq_of_mem_replicate hx];decide,hn⟩;have:=s2.aF h1;rw[this];simp[rr]
end Go.K
namespace Go.K
open Go.Proofs
namespace TKSet3
theorem DS:TI Tryz.prog 126 (.slice none 0 0) 1 24:=by unfold TI;kernel_rfl
theorem vP:TI Tryz.prog 205 (.int .u64 0) 1 8:=by unfold TI;kernel_rfl
theorem adx:Enters Tryz.prog 227:=enters Tryz.func227 rfl q0
theorem akZ:Enters Tryz.prog 274:=enters Tryz.func274 rfl q0
end TKSet3
open TKSet3
set_option maxRecDepth 10000
theorem AH {M:aP} {w0:World} {n:Nat} {ws:List Nat} {bs bw:Nat} (h:jY 128 205 n ws M w0 bs bw) {i:Int} (hi: -1<=i/\i<=1099511627776) (hb:∀j,bit ws j=true->j<n) (tab:∃e fr,w0.heap[1]? =some (.cells (Hl.map fun(k:Nat)=>Value.int .u8 (k:Int)).toArray e fr)):
  Spec Tryz.prog 227 #[.pointer (some ⟨bs,0,none⟩),.int .i64 i] w0 (λv' w'=>(∃r,v'= .int .i64 r/\UG ws i.toNat r/\ -1<=r/\r<=1099511627776)/\w0=w'):=by
 have hS:=h.s;have hW:=h.w;have hlen:=h.len;have fh:=h.ok;have Us:=h.nn;refine bD (args:=[_,_]) (fn:=Tryz.f227) Tryz.func227 G (n:=36) Tryz.ntmps227 (T.aU (Rg.a8 G G (T.aU (ab G G (Rg.max2 G G G (aZ (v':= .int .i64 (i.toNat:Int)) (congrArg _ hV) (Rg.a8 G G ?_)))))));refine aQ (bp ?_);refine dz (σ:=Nat) (λs=>[(0,.pointer (some ⟨bs,0,none⟩)),(1,.int .i64 s)]) (λs w=>w0=w/\i.toNat<=s/\(∀t,i.toNat<=t->t<s->bit ws t=false)/\s<=1099511627840) (λs=>n+64-s) i.toNat a83 ?_ ?_
 ·exact⟨G,aK _,λt h1 h2=>by omega,by omega⟩
 ·rintro p w1 ⟨rfl,hp,ka,tu⟩;refine aQ (T.aU (ab G G (ab G G (bu G ⟨_,G⟩ G (a7 fW G G I3 q0 G G (aR al G G G VR G (cH G G G (ad ?_))))))));refine bH G (λc2=>?_) (λc2=>?_)
  ·refine aM (bp (aQ (T.aU (ab G G (bu G ⟨_,G⟩ G (a7 fW G G DS q0 G G (aR dW G G G VR G (ab G G (Rg.zd G G G hV (Rg.Df dW vP G G G hV ?_))))))))));refine aR th rfl rfl rfl hW (v:= .int .u64 ((ws.getD (p/64) 0:Nat):Int)) (by rw[show(((p:Int)/64)).toNat=p/64 from by omega];exact jJ hV) (ab G G (Rg.yx G G G hV (Rg.shr G G G hV (aZ (v':= .int .u64 ((ws.getD (p/64) 0/2^(p%64):Nat):Int)) (congrArg _ (by rw[show((p:Int)%64)=((p%64:Nat):Int)from by omega];exact Wx _ _ hV)) (Rg.a8 G G (T.aU (ab G G (fG G G G (ad ?_)))))))));refine bH G (λc4=>?_) (λc4=>?_)
   ·refine T.aU (ab G G (ab G G ?_));obtain⟨k,m,Hf⟩:=Nv (ws.getD (p/64) 0/2^(p%64)) (Nat.pos_of_ne_zero λh=>c4 (by rw[h];rfl));have C2:=EH (fh.get _) (show p%64<64 by omega) Hf;have ak0:ws.getD (p/64) 0/2^(p%64)<2^64:=Nat.lt_of_le_of_lt (Nat.div_le_self _ _) (fh.get _);refine aV G G akZ (BU (k:=k) (m:=m) tab Hf ak0) (λr wc h=>?_);obtain⟨rfl,rfl⟩:=h;refine aX G G G hV (Rg.a8 G G (aS ?_));have hlb:=λt ht=>(Dg (k:=k) (m:=m)).2 t ht
    have hbk:bit ws (p+k)=true:=by rw[zz C2,Hf];exact Dg.1
    have:=hb _ hbk
    exact aT G G ⟨⟨_,G,.inl ⟨p+k,by omega,by omega,hbk,λt h1 h2=>by
     rcases cT t p with h|h
     ·exact ka t h1 h
     ·have h3:=zz (ws:=ws) (i:=p) (t:=t-p) hV;rw[show p+(t-p)=t from by omega]at h3;rw[h3,Hf];exact hlb _ hV⟩,by omega,by omega⟩,rfl⟩
   ·have hz0:ws.getD (p/64) 0/2^(p%64)=0:=by
     have:=cF.1 c4;exact Int.ofNat.inj this
    refine aM (ay (ab G G (ab G G (Rg.yx G G G hV (iQ G G G hV (aX G G G hV (Rg.a8 G G ?_)))))));refine⟨rfl,p+(64-p%64),(.cons rfl (.cons (by rw[show((p+(64-p%64):Nat):Int)=(p:Int)+(64-(p:Int)%64)from by omega];rfl) .nil)),?_,?_⟩
    ·refine⟨G,by omega,λt h1 h2=>?_,by omega⟩;rcases cT t p with h|h
     ·exact ka t h1 h
     ·have h3:=zz (ws:=ws) (i:=p) (t:=t-p) hV;rw[show p+(t-p)=t from by omega]at h3;rw[h3,hz0];simp
    ·show n+64-(p+(64-p%64))<n+64-p;omega
  ·refine de (T.aU (Rg.a8 G G (aS ?_)))
   exact aT G G ⟨⟨_,G,.inr ⟨G,λt h1=>by
    rcases cT t p with h|h
    ·exact ka t h1 h
    ·cases PL:bit ws t with
     |false=>rfl
     |true=>have:=hb t PL;omega⟩,by omega,by omega⟩,rfl⟩
theorem LG {M:aP} {w0:World} {bs:Nat} (hM:Lt M w0):
  Spec Tryz.prog 168 #[.pointer (some ⟨bs,0,none⟩)] w0 (λv' w'=>∃bl,v'= .func (.func 226) #[] #[.pointer (some ⟨bl,0,none⟩)]/\w'.heap[bl]? =some (.cells #[.pointer (some ⟨bs,0,none⟩)] 49 (0,0))/\w0.heap.size<=bl/\Step M w0 M w' aH):=by
 refine bD (args:=[_]) (fn:=Tryz.f168) Tryz.func168 G (n:=4) Tryz.ntmps168 (T.aU ?_);refine qu M G G (λbl w1 h1 Sa hS s1=>?_);change w1.heap[bl]? =some (.cells #[.pointer (some ⟨bs,0,none⟩)] _ _)at hS;refine Rg.a8 G G (T.aU (jQ (xs:=[]) (ys:=[.tmp 1]) G G G (Rg.a8 G G (aS ?_))));exact aT G G ⟨bl,G,hS,h1,s1.back⟩
theorem Iw {w0:World} {n:Nat} {ws:List Nat} {bs bw bl yl:Nat} {J:Nat->aP->World->Prop} {M:aP} {Jx:World->Prop} (hb:∀j,bit ws j=true->j<n) (TA:∀p M w,J p M w->w.heap[bl]? =some (.cells #[.pointer (some ⟨bs,0,none⟩)] 49 (0,0))/\jY 128 205 n ws M w bs bw/\(∃e fr,w.heap[1]? =some (.cells (Hl.map fun(k:Nat)=>Value.int .u8 (k:Int)).toArray e fr))) (hy:∀(p j:Nat) (M:aP) (w:World),J p M w->p<=j->bit ws j=true->(∀t,p<=t->t<j->bit ws t=false)->zo Tryz.prog yl [.int .i64 j].toArray w (λr w'=>∃c,r= .bool c/\(c=true->∃M',J (j+1) M' w')/\(c=false->Jx w'))) (h0:J 0 M w0):
  Spec Tryz.prog 226 #[.func (.yield yl) #[] #[],.pointer (some ⟨bl,0,none⟩)] w0 (λ_ w'=>(∃p M',J p M' w'∧∀t,p<=t->bit ws t=false)\/Jx w'):=by
 obtain⟨Tt,Xc,ak1⟩:=TA _ _ _ h0;refine bD (args:=[_,_]) (fn:=Tryz.f226) Tryz.func226 G (n:=17) Tryz.ntmps226 (T.aU (aR Tryz.underlying49 G G G VR G ?_));refine aV G G adx (AH Xc (i:=0) hV hb ak1) (λr wc h=>?_);obtain⟨⟨r,rfl,hr,YD,RY⟩,rfl⟩:=h;refine Rg.a8 G G (bp ?_);refine dz (σ:=Nat×Int) (λs=>[(0,.func (.yield yl) #[] #[]),(1,.pointer (some ⟨bl,0,none⟩)),(3,.int .i64 s.2)]) (λs w=>(∃M1,J s.1 M1 w)/\UG ws s.1 s.2/\ -1<=s.2/\s.2<=1099511627776/\s.1<=n) (λs=>n+1-s.1) (0,r) a11 ?_ ?_
 ·exact⟨⟨M,h0⟩,hr,YD,RY,bA _⟩
 ·clear hr YD RY;rintro⟨p,r⟩ w1 ⟨⟨M1,hJ⟩,hr,YD,RY,TR⟩;dsimp only at hJ hr YD RY TR ⊢;refine aQ (T.aU (ab G G (cu G G G (ab G G ?_))));refine aB (g:=8) G (λja=>?_) (λja=>?_)
  ·refine ae G G (ab G G (ae G G (ab G G (ae G G ?_))))
   have hrj:∃j:Nat,r=j/\p<=j/\bit ws j=true/\∀t,p<=t->t<j->bit ws t=false:=by
    rcases hr with h|h
    ·exact h
    ·omega
   obtain⟨j,rfl,hpj,Ix,ka⟩:=hrj;have hjn:=hb j Ix;refine Rg.yield G (vs:=[.int .i64 j]) G G (hy p j M1 _ hJ hpj Ix ka) (λr4 w5 h5=>?_);obtain⟨c,rfl,hc5,TZ⟩:=h5;refine aZ (v':= .bool (decide (c=true))) (by simp) (aN G G G (ad ?_));refine bH G (λc1=>?_) (λc1=>?_)
   ·obtain⟨M2,hJ2⟩:=hc5 c1;obtain⟨GY,iA,ak3⟩:=TA _ _ _ hJ2;refine aM (aQ (bp (aM (ay (aR Tryz.underlying49 G G G VR G (ab G G (aX G G G hV ?_)))))));refine aV G G adx (AH iA (i:=(j:Int)+1) (by have:=iA.nn;omega) hb ak3) (λr wc h=>?_);obtain⟨⟨r2,rfl,adz,hr3,hr4⟩,rfl⟩:=h;refine Rg.a8 G G ?_;refine⟨G,(j+1,r2),a11,?_,?_⟩
    ·refine⟨⟨M2,hJ2⟩,?_,hr3,hr4,by simp only;omega⟩;rw[show((j:Int)+1).toNat=j+1 from by omega]at adz;exact adz
    ·simp only;omega
   ·refine de ?_;change yu Tryz.prog Tryz.f226 (λ_ w'=>(∃p M',J p M' w'∧∀t,p<=t->bit ws t=false)\/Jx w') .normal _ [] _
    first
    |exact kM G (.inr (TZ (by simpa using c1)))
    |(have uA:∀t,p<=t->bit ws t=false:=by
       rcases hr with⟨j,h,_⟩|h
       ·omega
       ·exact h.2
      exact kM G (.inl ⟨p,M1,hJ,uA⟩))
  ·refine aj G G G G (aj G G G G (aj G G G G (au G G G (ad (fQ G (de ?_))))));change yu Tryz.prog Tryz.f226 (λ_ w'=>(∃p M',J p M' w'∧∀t,p<=t->bit ws t=false)\/Jx w') .normal _ [] _
   first
   |exact kM G (.inr (TZ (by simpa using c1)))
   |(have uA:∀t,p<=t->bit ws t=false:=by
      rcases hr with⟨j,h,_⟩|h
      ·omega
      ·exact h.2
     exact kM G (.inl ⟨p,M1,hJ,uA⟩))
end Go.K
namespace Go.K
open Go.Proofs
namespace TKSet2
theorem DS:TI Tryz.prog 126 (.slice none 0 0) 1 24:=by unfold TI;kernel_rfl
theorem vP:TI Tryz.prog 205 (.int .u64 0) 1 8:=by unfold TI;kernel_rfl
theorem E20:Enters Tryz.prog 20:=enters Tryz.func20 rfl q0
theorem ak4:Enters Tryz.prog 174:=enters Tryz.func174 rfl q0
end TKSet2
open TKSet2
set_option maxRecDepth 10000
theorem CI {ws vs:List Nat} {n:Nat} (hl:ws.length=(n+63)/64) (hv:vs.length=(n+63)/64) (hr:0<n%64) (h1:∀j,j<64*ws.length->bit vs j= !bit ws j) (j:Nat):bit (vs.set (vs.length-1) (vs.getD (vs.length-1) 0%2^(n%64))) j=(decide (j<n)&& !bit ws j):=by
 rw[Dj _ hV];by_cases hj:j/64=vs.length-1
 ·rw[if_pos hj,Nat.testBit_mod_two_pow];have h2:=h1 j hV;have h3:(vs.getD (vs.length-1) 0).testBit (j%64)=bit vs j:=by unfold bit;rw[hj]
  rw[h3,h2];congr 1;exact decide_eq_decide.2 hV
 ·rw[if_neg hj];by_cases xX:j<n
  ·rw[h1 j hV,decide_eq_true xX,dF]
  ·rw[decide_eq_false xX,eT,Si hV]
theorem Ge {ws vs:List Nat} {n:Nat} (hl:ws.length=(n+63)/64) (hr:n%64=0) (h1:∀j,j<64*ws.length->bit vs j= !bit ws j) (h2:∀j,64*ws.length<=j->bit vs j=false) (j:Nat):bit vs j=(decide (j<n)&& !bit ws j):=by
 by_cases xX:j<n
 ·rw[h1 j hV,decide_eq_true xX,dF]
 ·rw[decide_eq_false xX,eT,h2 j hV]
theorem LH {M:aP} {w0:World} {n:Nat} {ws:List Nat} {bs bw:Nat} (h:jY 128 205 n ws M w0 bs bw):
  Spec Tryz.prog 174 #[.pointer (some ⟨bs,0,none⟩)] w0 (λv' w'=>∃os ow yO,v'= .pointer (some ⟨os,0,none⟩)/\w0.heap.size<=os/\w0.heap.size<=ow/\Step M w0 (ins (ins M ow) os) w' aH/\jY 128 205 n yO (ins (ins M ow) os) w' os ow/\∀j,bit yO j=(decide (j<n)&& !bit ws j)):=by
 have hS:=h.s;have hW:=h.w;have hlen:=h.len;have fh:=h.ok;have Us:=h.nn;refine bD (args:=[_]) (fn:=Tryz.f174) Tryz.func174 G (n:=56) Tryz.ntmps174 (T.aU (Rg.a8 G G (T.aU (ab G G (bu G ⟨_,G⟩ G (a7 fW G G I3 q0 G G (aR al G G G VR G ?_)))))));refine aV G G E20 (CH (M:=M) Us) (λr1 w1 h=>?_);obtain⟨os,ow,rfl,z1,z2,s1,hO1⟩:=h;obtain⟨M1,BS⟩:∃M1,M1=ins (ins M ow) os:=⟨_,rfl⟩;rw[<-BS]at s1 hO1;have h1:=h.step s1 (λh=>h) (λh=>h);have hS1:=h1.s;have lbs:=ah hS;have lbw:=ah hW;refine Rg.a8 G G (aQ (T.aU (ab G G (bu G ⟨_,G⟩ G (a7 fW G G DS q0 G G (aR dW G G G VR G (Rg.xf dW G G (ab G G (ad ?_)))))))));refine bp ?_;refine dz (σ:=Nat×List Nat) (λs=>[(0,.pointer (some ⟨bs,0,none⟩)),(3,.pointer (some ⟨os,0,none⟩)),(15,.slice (some ⟨bw,0,none⟩) ws.length ws.length),(16,.int .i64 ws.length),(17,.int .i64 s.1)]) (λs w=>s.1<=ws.length/\jY 128 205 n ws M1 w bs bw/\jY 128 205 n s.2 M1 w os ow/\(∀j,j<64*s.1->bit s.2 j= !bit ws j)/\(∀j,64*s.1<=j->bit s.2 j=false)/\Step M1 w1 M1 w (λb=>b=ow)) (λs=>ws.length-s.1) (0,List.replicate ((n+63)/64) 0) a74 ?_ ?_
 ·exact⟨bA _,h1,hO1,λj hj=>by omega,λj hj=>EG _ _,(bg).eE a30 (λb hb=>by rw[hb];exact hO1.mw)⟩
 ·rintro⟨k,vs⟩ w2 ⟨hk,h2,DT,xi,yv,S2⟩;dsimp only at hk DT xi yv ⊢;have hS2:=h2.s;have hOS:=DT.s;have mz:=DT.len;refine T.aU (cH G G G (ad (aQ ?_)));refine bH G (λc3=>?_) (λc3=>?_)
  ·refine aM (aQ (bp (T.aU (ab G G (Rg.Df dW vP G G G hV (aR th rfl rfl rfl h2.w (v:= .int .u64 ((ws.getD (k) 0:Nat):Int)) (by rw[show((k:Int)).toNat=k from by omega];exact jJ hV) (aJ G G (Rg.a8 G G (ay ?_)))))))));refine ab G G (bu G ⟨_,G⟩ G (a7 fW G G DS q0 G G (aR dW G G G VR G (ab G G (ab G G (Rg.aaP G G (fh.get _) (Rg.Df dW vP G G G hV ?_)))))));refine cA (M:=M1) (u:= .int .u64 ((vs.getD k 0:Nat):Int)) vP rfl rfl DT.w (by rw[av];exact jJ hV) G DT.mw (λw5 hW5 s5=>?_);rw[av,tH]at hW5;refine ad (ay (aX G G G hV (ab G G (ad ?_))));refine⟨G,(k+1,vs.set k (2^64-1-ws.getD k 0)),a74,?_,?_⟩
   ·refine⟨by simp only;omega,h2.step s5 hV hV,DT.put s5 (by simp) hW5 (DT.ok.set hV),λj hj=>?_,λj hj=>?_,S2.trans s5 (λ_ _ h=>h)⟩
    ·simp only at hj ⊢;rw[Dj _ hV];by_cases hjk:j/64=k
     ·rw[if_pos hjk,Nx (fh.get _) hV];unfold bit;rw[hjk]
     ·rw[if_neg hjk];exact xi j hV
    ·simp only at hj ⊢;rw[Dj _ hV,if_neg hV];exact yv j hV
   ·simp only;omega
  ·refine de (aQ (T.aU (ab G G (bu G ⟨_,G⟩ G (a7 fW G G I3 q0 G G (aR al G G G VR G (Rg.yx G G G hV (aZ (v':= .int .i64 ((n%64:Nat):Int)) (congrArg _ hV) (Rg.a8 G G ?_)))))))));refine T.aU (ab G G (fR G G G (ad ?_)));refine bH G (λc8=>?_) (λc8=>?_)
   ·have ZU:=Nat.two_pow_pos (n%64);have hp3:2^(n%64)<2^64:=Nat.pow_lt_pow_right q0 hV;apply T.sN (M:=M1) mixed [] [cy.eq _,cy.eq _,cy.eq _,cy.eq (.slice (some ⟨ow,0,none⟩) vs.length vs.length),cy.eq _,cy.eq _,cy.eq _,cy.eq (.slice (some ⟨ow,0,none⟩) vs.length vs.length),cy.eq (.int .i64 vs.length),cy.eq (.int .i64 ((vs.length-1:Nat):Int)),cy.eq (.pointer (some ⟨ow,((vs.length-1:Nat):Int).toNat,none⟩)),cy.eq (.int .u64 ((vs.getD (vs.length-1) 0:Nat):Int)),cy.eq _,cy.eq (.int .u64 ((2^(n%64):Nat):Int)),cy.eq (.int .u64 ((2^(n%64)-1:Nat):Int)),cy.eq (.int .u64 (((vs.getD (vs.length-1) 0%2^(n%64)):Nat):Int)),cy.eq (.pointer (some ⟨ow,((vs.length-1:Nat):Int).toNat,none⟩))] 17
    ·rfl
    ·rfl
    ·rfl
    ·rfl
    ·rfl
    ·exact a90
    ·exact sh
    ·refine aD ?_ ?_
     ·intro wD E sD;refine ab G G ?_;exact VT
     refine aD ?_ ?_
     ·intro wD E sD;refine aA (bu G ⟨_,G⟩ G ?_);exact VT
     refine aD ?_ ?_
     ·intro wD E sD;refine aA (a7 fW G G DS q0 G G ?_);exact VT
     refine aD ?_ ?_
     ·intro wD E sD;refine aA (aR dW G G G (cp sD VR) G ?_);exact VT
     refine aD ?_ ?_
     ·intro wD E sD;refine ab G G ?_;exact VT
     refine aD ?_ ?_
     ·intro wD E sD;refine aA (bu G ⟨_,G⟩ G ?_);exact VT
     refine aD ?_ ?_
     ·intro wD E sD;refine aA (a7 fW G G DS q0 G G ?_);exact VT
     refine aD ?_ ?_
     ·intro wD E sD;refine aA (aR dW G G G (cp sD VR) G ?_);exact VT
     refine aD ?_ ?_
     ·intro wD E sD;refine aA (Rg.xf dW G G ?_);exact VT
     refine aD ?_ ?_
     ·intro wD E sD;refine aA (iQ G G G hV (aZ (v':= .int .i64 ((vs.length-1:Nat):Int)) (congrArg _ hV) ?_));exact VT
     refine aD ?_ ?_
     ·intro wD E sD;refine aA (aA (Rg.Df dW vP G G G hV ?_));exact VT
     refine aD ?_ ?_
     ·intro wD E sD;refine aA (aR th rfl rfl rfl (sD.aF DT.w) (v:= .int .u64 ((vs.getD (vs.length-1) 0:Nat):Int)) (by rw[av];exact jJ hV) ?_);exact VT
     refine aD ?_ ?_
     ·intro wD E sD;refine ab G G ?_;exact VT
     refine aD ?_ ?_
     ·intro wD E sD;refine aA (Rg.shl G G G hV (aZ (v':= .int .u64 ((2^(n%64):Nat):Int)) (congrArg _ (aaR _ hV)) ?_));exact VT
     refine aD ?_ ?_
     ·intro wD E sD;refine aA (Rg.V2 rfl rfl rfl (aZ (v':= .int .u64 ((2^(n%64)-1:Nat):Int)) (congrArg _ (by rw[show((2^(n%64):Nat):Int)-1=((2^(n%64)-1:Nat):Int)from by omega,Dh,Nat.mod_eq_of_lt hV])) ?_));exact VT
     refine aD ?_ ?_
     ·intro wD E sD;refine aA (aA (Rg.and G G G (aZ (v':= .int .u64 (((vs.getD (vs.length-1) 0%2^(n%64)):Nat):Int)) (congrArg _ (by rw[Hk _ _ (DT.ok.get _) hV,Nat.and_two_pow_sub_one_eq_mod])) ?_)));exact VT
     refine aD ?_ ?_
     ·intro wD E sD;refine aA (aA (aA (aA (aA (aA (aA (aA (aA (aA (aA (aA ?_)))))))))));refine aA (aA (aA (aA (aA (aA (Rg.Df dW vP G G G hV ?_))))));exact VT
     exact kI
    ·intro Z7 JX;refine aA (aA (aA (aA (aA (aA (aA (aA (aA (aA (aA (aA ?_)))))))))));refine aA (aA (aA (aA (aA ?_))));refine cA (M:=M1) (u:= .int .u64 ((vs.getD (vs.length-1) 0:Nat):Int)) vP rfl rfl (JX.aF DT.w) (by rw[av];exact jJ hV) G DT.mw (λw9 hW9 s9=>?_);rw[av,tH]at hW9;refine ad (T.aU (ab G G (Rg.a8 G G (aS ?_))));have Et:k=ws.length:=by omega
     first
     |exact aT rfl rfl ⟨os,ow,vs.set (vs.length-1) (vs.getD (vs.length-1) 0%2^(n%64)),rfl,z1,z2,by rw[<-BS];exact(s1.cE S2 (λb hb=>by omega)).ar JX |>.cE s9 (λb hb=>by omega),by rw[<-BS];exact(DT.step JX (λh=>h) (λh=>h)).put s9 (by simp) hW9 (DT.ok.set (Nat.lt_of_le_of_lt (Nat.mod_le _ _) (DT.ok.get _))),λj=>CI hlen mz hV (by rw[<-Et];exact xi) j⟩
     |exact aT rfl rfl ⟨os,ow,vs,rfl,z1,z2,by rw[<-BS];exact s1.cE S2 (λb hb=>by omega),by rw[<-BS];exact DT,λj=>Ge hlen hV (by rw[<-Et];exact xi) (by rw[<-Et];exact yv) j⟩
   ·refine aM (T.aU (ab G G (Rg.a8 G G (aS ?_))));have Et:k=ws.length:=by omega
    first
    |exact aT rfl rfl ⟨os,ow,vs.set (vs.length-1) (vs.getD (vs.length-1) 0%2^(n%64)),rfl,z1,z2,by rw[<-BS];exact(s1.cE S2 (λb hb=>by omega)).ar JX |>.cE s9 (λb hb=>by omega),by rw[<-BS];exact(DT.step JX (λh=>h) (λh=>h)).put s9 (by simp) hW9 (DT.ok.set (Nat.lt_of_le_of_lt (Nat.mod_le _ _) (DT.ok.get _))),λj=>CI hlen mz hV (by rw[<-Et];exact xi) j⟩
    |exact aT rfl rfl ⟨os,ow,vs,rfl,z1,z2,by rw[<-BS];exact s1.cE S2 (λb hb=>by omega),by rw[<-BS];exact DT,λj=>Ge hlen hV (by rw[<-Et];exact xi) (by rw[<-Et];exact yv) j⟩
theorem LI {M:aP} {w0:World} {n:Nat} (hn:n<=1099511627776):
  Spec Tryz.prog 118 #[.int .i64 n] w0 (λv' w'=>∃os ow yO M',v'= .pointer (some ⟨os,0,none⟩)/\w0.heap.size<=os/\w0.heap.size<=ow/\Step M w0 M' w' aH/\jY 128 205 n yO M' w' os ow/\∀j,bit yO j=decide (j<n)):=by
 refine bD (args:=[_]) (fn:=Tryz.f118) Tryz.func118 G (n:=6) Tryz.ntmps118 (T.aU (Rg.a8 G G (T.aU (ab G G ?_))));refine aV G G E20 (CH (M:=M) hn) (λr1 w1 h=>?_);obtain⟨bs,bw,rfl,z1,z2,s1,h1⟩:=h;refine aV G G ak4 (LH h1) (λr2 w2 h=>?_);obtain⟨os,ow,yO,rfl,z3,z4,s2,h2,hb⟩:=h;have y1:=s1.size;refine Rg.a8 G G (aS ?_);exact aT rfl rfl ⟨os,ow,yO,_,rfl,by omega,by omega,s1.ar s2,h2,λj=>by rw[hb j,EG];simp⟩
end Go.K
namespace Go.K
open Go.Proofs
namespace TKLiveB
theorem adA:Enters Tryz.prog 108:=enters Tryz.func108 rfl q0
theorem adB:Enters Tryz.prog 118:=enters Tryz.func118 rfl q0
theorem adC:Enters Tryz.prog 119:=enters Tryz.func119 rfl q0
end TKLiveB
open TKLiveB
set_option maxRecDepth 10000
end Go.K
namespace Go.K
open Go.Proofs
set_option maxRecDepth 10000
theorem Qi {r:Int} (h:1<=r):∀x∈Lib.encodeRuneZ r,1<=x/\x<=255:=by
 intro x hx;unfold Lib.encodeRuneZ at hx
 split at hx
 ·simp at hx;omega
 ·split at hx
  ·simp at hx;omega
  ·split at hx
   ·simp at hx;omega
   ·split at hx
    ·simp at hx;omega
    ·simp at hx;omega
theorem YH {r:Int} (h:1<=r):(0:UInt8)∉Lib.encodeRune r:=λhm=>by
 unfold Lib.encodeRune at hm;obtain⟨x,hx,wT⟩:=cO.1 hm;obtain⟨h1,h2⟩:=Qi h x hx;have:=congrArg UInt8.toNat wT;simp at this;omega
theorem T0 {c:Int} (h:1<=c):1<=rV c:=by unfold rV;split<;>omega
theorem Qj {l:List Int} (h:∀c∈l,1<=c):(0:UInt8)∉ik l:=λhm=>by
 unfold ik at hm;obtain⟨c,hc,hx⟩:=List.mem_flatMap.1 hm;exact YH (T0 (h c hc)) hx
theorem LJ {c:Int} (h:fT c=true\/mX c=true):1<=eo c:=by
 have:1<=c:=by
  rcases h with h|h
  ·unfold fT at h;simp at h;omega
  ·unfold mX at h;simp at h;omega
 unfold eo;split<;>omega
theorem T1 (l:List Int):∀p:List Int×List (List UInt8),(∀c∈p.1,1<=c)->(∀w∈p.2,(0:UInt8)∉w)->(∀c∈(l.foldl eP p).1,1<=c)/\∀w∈(l.foldl eP p).2,(0:UInt8)∉w:=by
 induction l with
 |nil=>intro p h1 h2;exact⟨h1,h2⟩
 |cons c l ih=>
  intro p h1 h2;rw[qP];refine ih _ ?_ ?_
  ·unfold eP
   split
   ·rename_i hc
    intro x hx;rcases dH.1 hx with hx|hx
    ·exact h1 x hx
    ·rw[cV.1 hx];exact LJ hc
   ·split<;>(intro x hx;cases hx)
  ·unfold eP
   split
   ·exact h2
   ·split
    ·intro w hw;rcases dH.1 hw with hw|hw
     ·exact h2 w hw
     ·rw[cV.1 hw];exact Qj h1
    ·exact h2
theorem Gf (l:List UInt8):∀w∈words l,(0:UInt8)∉w:=(T1 _ ([],[]) (λc h=>by cases h) (λw h=>by cases h)).2
theorem Gg {a b:Fd} (ha:MB a) (Ef:(0:UInt8)∉a.2) (h:dv a=dv b):a=b:=by
 have h1:(dv a).count 0=1:=by
  unfold dv;rw[List.count_append,List.count_append,List.count_eq_zero.2 ha,List.count_eq_zero.2 Ef];simp
 have h2:(dv b).count 0=b.1.count 0+1+b.2.count 0:=by
  unfold dv;rw[List.count_append,List.count_append];simp
 rw[h]at h1;exact vz ha (show MB b from List.count_eq_zero.1 hV) h
theorem ua {fs:List Fd} {t:Fd}:t∈(cQ fs).map (·.1)↔∃f∈fs,f.1=t.1/\t.2∈words f.2:=by
 unfold cQ gU;constructor
 ·intro h;obtain⟨p,hp,rfl⟩:=cO.1 h;obtain⟨f,hf,hp⟩:=List.mem_flatMap.1 hp;obtain⟨q,hq,rfl⟩:=cO.1 hp;exact⟨f,hf,G,(List.mem_zipIdx hq).2.2▸List.getElem_mem _⟩
 ·rintro⟨f,hf,h1,h2⟩;obtain⟨i,hi,he⟩:=List.mem_iff_getElem.1 h2;refine cO.2 ⟨((f.1,t.2),i),List.mem_flatMap.2 ⟨f,hf,cO.2 ⟨(t.2,i),?_,rfl⟩⟩,by rw[h1]⟩;rw[List.mem_zipIdx_iff_getElem?];simp[hi,he]
theorem CJ {ws:List (List UInt8)} {x:List UInt8}:0<(jO ws x).length↔x∈ws:=by
 unfold jO;rw[cg,List.length_pos_iff_exists_mem];constructor
 ·rintro⟨p,hp⟩;obtain⟨h1,h2⟩:=kr.1 hp;have h2:p.1=x:=by simpa using h2
  rw[<-h2];rw[List.mem_zipIdx_iff_getElem?]at h1;exact ao h1
 ·intro h;obtain⟨i,hi⟩:=bQ.1 h;exact⟨(x,i),kr.2 ⟨by rw[List.mem_zipIdx_iff_getElem?];exact hi,by simp⟩⟩
theorem Gh {d:Dc} (h:iT d) {k x:List UInt8}:x∈ej d.2 k↔∃f∈d.2,f.1=k/\x∈words f.2:=by
 unfold ej;constructor
 ·intro hx
  split at hx
  ·rename_i f hf
   exact⟨f,List.mem_of_find?_eq_some hf,by simpa using List.find?_some hf,hx⟩
  ·cases hx
 ·rintro⟨f,hf,h1,h2⟩
  split
  ·rename_i g hg
   have hg1:=List.mem_of_find?_eq_some hg;have hg2:g.1=k:=by simpa using List.find?_some hg
   have:g=f:=by
    obtain⟨i,hi⟩:=bQ.1 hg1;obtain⟨j,hj⟩:=bQ.1 hf
    have jS:i=j:=by
     refine(List.getElem?_inj (by rw[cg];exact(ak.1 hi).1) h.once).1 ?_;rw[eX,eX,hi,hj];simp[hg2,h1]
    subst jS;rw[hi]at hj;exact aG hj
   rw[this];exact h2
  ·rename_i hn
   rw[List.find?_eq_none]at hn;exact absurd h1 (by simpa using hn f hf)
theorem Qk {d:Dc} (h:iT d) (i:Nat) (t:Fd):Fy i (cQ d.2) (dv t)≠[]↔0<(jO (ej d.2 t.1) t.2).length:=by
 rw[CJ,Gh h];constructor
 ·intro fB;rcases yR h i (dv t)with h1|⟨u,hu,hk,_⟩
  ·exact absurd h1 fB
  ·have Kw:=(jr h.JK).1 hu;obtain⟨f,hf,sm,lU⟩:=ua.1 Kw;have e:u=t:=Gg (by obtain⟨p,hp,rfl⟩:=cO.1 Kw;exact h.JK p hp) (Gf _ _ lU) hk;rw[<-e];exact⟨f,hf,sm,lU⟩
 ·rintro⟨f,hf,h1,h2⟩;exact OS ((jr h.JK).2 (ua.2 ⟨f,hf,h1,h2⟩))
section
variable {P:Program} {r:Option Nat} {n:Nat} {L:Sl} {ds:List Deferred} {w:World} {K:Kt} {ops:Array Oper} {rest:List Oper} {d:Nat} {x y:Operand} {ty:TypeId} {pos:String} {af:Array Edge}
theorem LK {t:TypeId} {f' g':Field} (hu:P.underlying t=some (.struct #[f',g'])) (hpu:P.stoodInHeld t=false) (hm:f'.name≠ "_") (D8:g'.name≠ "_")
  (o3:f'.offset=0) (o4:g'.offset=1) (s1:P.underlying f'.type=some .string) (s2:P.underlying g'.type=some .string) (a b a' b':List UInt8):
  (Op.equalIn 10000 t (.agg #[.string ⟨a.toArray⟩,.string ⟨b.toArray⟩]) (.agg #[.string ⟨a'.toArray⟩,.string ⟨b'.toArray⟩])).run P w= .ok (decide ((a,b)=(a',b'))) w:=by
 have h1:(Op.equalIn (9999+1) t (.agg #[.string ⟨a.toArray⟩,.string ⟨b.toArray⟩]) (.agg #[.string ⟨a'.toArray⟩,.string ⟨b'.toArray⟩])).run P w= .ok (decide (a=a')&&decide (b=b')) w:=
  Gd (k:=9998+1) (a:= .string ⟨a.toArray⟩) (b:= .string ⟨a'.toArray⟩) (a':= .string ⟨b.toArray⟩) (b':= .string ⟨b'.toArray⟩) hu hpu hm D8 (mh s1 (by rw[o3];rfl)) (mh s1 (by rw[o3];rfl)) (mh s2 (by rw[o4];rfl)) (mh s2 (by rw[o4];rfl))
   (by rw[run_equalIn_string w 9998 _ _ _ s1,J3]) (by rw[run_equalIn_string w 9998 _ _ _ s2,J3])
 rw[show(10000:Nat)=9999+1 from rfl,h1];congr 1;by_cases e1:a=a'<;>by_cases e2:b=b'<;>simp[e1,e2]
theorem Rg.ak7 {t t':TypeId} {f' g':Field} {p q:List UInt8×List UInt8} (hu:P.underlying t=some (.struct #[f',g'])) (hpu:P.stoodInHeld t=false) (hq:P.eqGuardType P.depth t=false) (hm:f'.name≠ "_") (D8:g'.name≠ "_")
  (o3:f'.offset=0) (o4:g'.offset=1) (s1:P.underlying f'.type=some .string) (s2:P.underlying g'.type=some .string)
  (hx:ev L x=some (.agg #[.string ⟨p.1.toArray⟩,.string ⟨p.2.toArray⟩])) (hy:ev L y=some (.agg #[.string ⟨q.1.toArray⟩,.string ⟨q.2.toArray⟩])) (hd:Nat.blt d n=true)
  (k:Rg P r n ops rest ((d,.bool (decide (p=q)))::L) ds w K):
  Rg P r n ops ({dst:=some d,op:= .binOp .eql t x y t',type:=ty,pos,after:=af,guard:=none}::rest) L ds w K:=
 .op a07 rfl rfl hd _ w (λρ h=>by
  have he:(Op.equalIn 10000 t (.agg #[.string ⟨p.1.toArray⟩,.string ⟨p.2.toArray⟩]) (.agg #[.string ⟨q.1.toArray⟩,.string ⟨q.2.toArray⟩])).run P w= .ok (decide (p=q)) w:=LK (P:=P) (w:=w) hu hpu hm D8 o3 o4 s1 s2 p.1 p.2 q.1 q.2;simp only[execOp];rw[h x _ hx,h y _ hy];rw[cw,cw,run_eqGuard_agg (P:=P) w .eql t x y _ _ hq];simp only[run_eql_struct,he,cM,cw,nF]) k
variable {N:aP} {wd:World} {dst:Option Nat} {gd:Option (Nat×Bool)}
end
theorem Ql {fs:List Fd} (h:(fs.map (·.1)).Nodup) (t:Fd):jO (ej fs t.1) t.2=posOf (cQ fs) t:=by
 induction fs with
 |nil=>rfl
 |cons x fs ih=>
  have h':=List.nodup_cons.1 h;have e:posOf (cQ (x::fs)) t=posOf (gU x) t++posOf (cQ fs) t:=by show posOf (gU x++cQ fs) t=_;rw[pV]
  by_cases hx:x.1=t.1
  ·rw[e,xy λy hy e=>h'.1 (by have h9:y.1∈fs.map (·.1):=gj hy;rw[e,<-hx]at h9;exact h9),bz];rw[Gb (i:=0) (x:=x) rfl hx (λj y hj=>absurd hj (fp _))];unfold jO posOf gU;rw[List.filter_map,List.map_map];congr 1;refine List.filter_congr λp _=> ?_
   show decide (p.1=t.2)=decide ((x.1,p.1)=t);refine decide_eq_decide.2 ⟨λe=>?_,λe=>?_⟩
   ·rw[hx,e]
   ·rw[<-e]
  ·rw[e,tW hx,ix,<-ih h'.2];congr 1;unfold ej;rw[List.find?_cons_of_neg af5]
structure ly (l:List Fo) (lo hi:Nat):Prop where
 up:l.Pairwise λp q=>p.1<q.1
 ED:∀p∈l,(lo:Int)<=p.1/\p.1<hi
 sc:∀p∈l,-1000000000<=p.2/\p.2<=1000000000
def bG:List Fo->Int->Int
 |[],_=>0
 |p::l,d=>if p.1=d then p.2 else bG l d
def fS (a b:List Fo) (d:Int):Int:=(if dY a d then 1 else 0)+(if dY b d then 1 else 0)
def jl (least:Int) (a b:List Fo) (d:Nat):List Fo:=if least<=fS a b (d:Int)then[((d:Int),bG a (d:Int)+bG b (d:Int))]else[]
def pg (least:Int) (a b:List Fo) (p k:Nat):List Fo:=(List.range' p k).flatMap (jl least a b)
theorem ly.qR {l:List Fo} {lo hi:Nat} (h:ly l lo hi) (hh:hi<=100000):qR l:=λp hp=>by have:=h.ED p hp;omega
theorem ly.head {p:Fo} {l:List Fo} {lo hi:Nat} (h:ly (p::l) lo hi):∀q∈l,p.1<q.1:=(gC.1 h.up).1
theorem rZ (p:Fo) (l:List Fo) (d:Int):dY (p::l) d=(decide (p.1=d)||dY l d):=rfl
theorem LL {l:List Fo} {d:Int} (h:∀q∈l,d<q.1):dY l d=false:=by
 unfold dY;rw[List.any_eq_false];intro q hq;have:=h q hq;simp only[decide_eq_true_eq];omega
theorem fc:∀{l:List Fo} {d:Int},dY l d=false->bG l d=0
 |[],_,_=>rfl
 |p::l,d,h=>by
  rw[rZ,Bool.or_eq_false_iff,decide_eq_false_iff_not]at h;rw[bG,if_neg h.1,fc h.2]
theorem ly.hit {l:List Fo} {lo hi:Nat} (h:ly l lo hi):hit l (lo:Int)=dY l (lo:Int):=by
 cases l with
 |nil=>rfl
 |cons p l=>
  rw[rZ];change decide (p.1=(lo:Int))=_;have h1:=h.ED p (bE ..);rw[LL (l:=l) (λq hq=>by have:=h.head q hq;omega),Bool.or_false]
theorem ly.rest {l:List Fo} {lo hi:Nat} (h:ly l lo hi):ly (eW l (lo:Int)) (lo+1) hi/\(∀d:Int,(lo:Int)<d->dY (eW l (lo:Int)) d=dY l d/\bG (eW l (lo:Int)) d=bG l d):=by
 cases l with
 |nil=>exact⟨⟨List.Pairwise.nil,λp hp=>by simp[eW,Go.K.hit]at hp,λp hp=>by simp[eW,Go.K.hit]at hp⟩,λd _=>⟨rfl,rfl⟩⟩
 |cons p l=>
  have h1:=h.ED p (bE ..);by_cases hp:p.1=(lo:Int)
  ·have e:eW (p::l) (lo:Int)=l:=by unfold eW;rw[if_pos (tI hp)];rfl
   rw[e];refine⟨⟨(gC.1 h.up).2,λq hq=>?_,λq hq=>h.sc q (cn _ hq)⟩,λd hd=>⟨?_,?_⟩⟩
   ·have:=h.head q hq;have:=h.ED q (cn _ hq);omega
   ·rw[rZ,decide_eq_false hV,Bool.false_or]
   ·rw[bG,if_neg hV]
  ·have e:eW (p::l) (lo:Int)=p::l:=by
    unfold eW;rw[if_neg];intro h2;exact hp (of_decide_eq_true h2)
   rw[e];refine⟨⟨h.up,λq hq=>?_,h.sc⟩,λd _=>⟨G,G⟩⟩;have h3:=h.ED q hq;rcases dg.1 hq with rfl|hq2
   ·omega
   ·have:=h.head q hq2;omega
theorem ly.skip {l:List Fo} {lo hi:Nat} (h:ly l lo hi) (hn:dY l (lo:Int)=false):ly l (lo+1) hi:=by
 refine⟨h.up,λp hp=>?_,h.sc⟩;have h1:=h.ED p hp
 have:p.1≠(lo:Int):=λe=>by
  have:dY l (lo:Int)=true:=by unfold dY;rw[jP];exact⟨p,hp,decide_eq_true e⟩
  rw[hn]at this;cases this
 omega
theorem ly.score {l:List Fo} {lo hi:Nat} (h:ly l lo hi) {s:Int} (hs: -1000000000<=s/\s<=1000000000):lW l (lo:Int) s=s+bG l (lo:Int)/\ -1000000000<=bG l (lo:Int)/\bG l (lo:Int)<=1000000000:=by
 cases l with
 |nil=>simp[lW,Go.K.hit,bG]
 |cons p l=>
  have h1:=h.sc p (bE ..);have h2:=h.hit;unfold lW;rw[h2];by_cases hp:p.1=(lo:Int)
  ·rw[if_pos (by rw[rZ,decide_eq_true hp];rfl),bG,if_pos hp];refine⟨?_,h1⟩;change IntKind.i64.wrap (s+p.2)=_;exact jC _ hV
  ·have hn:dY (p::l) (lo:Int)=false:=by rw[<-h2];exact decide_eq_false hp
   rw[hn,fc hn];simp
theorem adD {a b:List Fo} {lo hi:Nat} (ha:ly a lo hi) (hb:ly b lo hi) (hh:hi<=100000) (h:dY a (lo:Int)=true\/dY b (lo:Int)=true):iZ a b=(lo:Int):=by
 rw[<-ha.hit,<-hb.hit]at h
 have key:∀{l:List Fo},ly l lo hi->∀x:Int,(lo:Int)<=x->(lo:Int)<=mn l x/\(hit l (lo:Int)=true->mn l x=(lo:Int))/\mn l x<=x:=by
  intro l hl x hx
  cases l with
  |nil=>exact⟨hx,λh=>by simp[hit]at h,oh _⟩
  |cons p l=>
   have h1:=hl.ED p (bE ..);change(lo:Int)<=min x p.1/\(_->min x p.1=(lo:Int))/\min x p.1<=x;exact⟨by omega,λh=>by have:p.1=(lo:Int):=of_decide_eq_true h;omega,by omega⟩
 obtain⟨k1,k2,k3⟩:=key ha 2147483648 (by
  rcases h with h|h
  ·cases a with
   |nil=>simp[hit]at h
   |cons p l=>have:=ha.ED p (bE ..);omega
  ·cases b with
   |nil=>simp[hit]at h
   |cons p l=>have:=hb.ED p (bE ..);omega)
 obtain⟨j1,j2,j3⟩:=key hb _ k1;unfold iZ;rcases h with h|h
 ·have:=k2 h;omega
 ·exact j2 h
theorem YI {a b:List Fo} {lo hi:Nat} (ha:ly a lo hi) (hb:ly b lo hi) (hx:iZ a b=(lo:Int)):sw a b 2=fS a b (lo:Int)/\sx a b 2=bG a (lo:Int)+bG b (lo:Int):=by
 constructor
 ·change mV b (iZ a b) (mV a (iZ a b) 0)=_;rw[hx];unfold mV fS;rw[ha.hit,hb.hit]
  cases dY a (lo:Int)<;>cases dY b (lo:Int)<;>rfl
 ·change lW b (iZ a b) (lW a (iZ a b) 0)=_;rw[hx];obtain⟨h1,h2⟩:=ha.score (s:=0) hV;rw[Int.zero_add]at h1;rw[h1,(hb.score h2).1]
theorem adE {least:Int} {a b a' b':List Fo} {d:Nat} (h1:dY a' (d:Int)=dY a (d:Int)) (h2:bG a' (d:Int)=bG a (d:Int)) (h3:dY b' (d:Int)=dY b (d:Int)) (h4:bG b' (d:Int)=bG b (d:Int)):jl least a' b' d=jl least a b d:=by
 unfold jl fS;rw[h1,h2,h3,h4]
theorem AI {least:Int} (hl:1<=least):∀(k p:Nat) (a b:List Fo),p+k<=100000->ly a p (p+k)->ly b p (p+k)->BB least a b=pg least a b p k
 |0,p,a,b,_,ha,hb=>by
  have e1:a=[]:=by
   cases a with
   |nil=>rfl
   |cons q l=>have:=ha.ED q (bE ..);omega
  have e2:b=[]:=by
   cases b with
   |nil=>rfl
   |cons q l=>have:=hb.ED q (bE ..);omega
  subst e1;subst e2;rfl
 |k+1,p,a,b,hk,ha,hb=>by
  have ak8:pg least a b p (k+1)=jl least a b p++pg least a b (p+1) k:=by
   unfold pg;rw[List.range'_succ,List.flatMap_cons]
  rw[ak8];by_cases h:dY a (p:Int)=true\/dY b (p:Int)=true
  ·have hx:=adD ha hb hV h;obtain⟨hm,hs⟩:=YI ha hb hx
   have fB:a≠[]\/b≠[]:=by
    rcases h with h|h
    ·left;rintro rfl;simp[dY]at h
    ·right;rintro rfl;simp[dY]at h
   rw[ru (ha.qR hV) (hb.qR hV) fB,hm,hs,hx];obtain⟨ra,ea⟩:=ha.rest;obtain⟨rb,eb⟩:=hb.rest;rw[AI hl k (p+1) _ _ hV (by rw[show p+1+k=p+(k+1)from by omega];exact ra) (by rw[show p+1+k=p+(k+1)from by omega];exact rb)];congr 1;unfold pg;rw[List.flatMap_def,List.flatMap_def];congr 1;apply List.map_congr_left;intro d hd;rw[List.mem_range'_1]at hd;exact adE (ea d hV).1 (ea d hV).2 (eb d hV).1 (eb d hV).2
  ·have h1:dY a (p:Int)=false:=by cases e:dY a (p:Int)with|false=>rfl|true=>exact absurd (.inl e) h
   have h2:dY b (p:Int)=false:=by cases e:dY b (p:Int)with|false=>rfl|true=>exact absurd (.inr e) h
   have hj:jl least a b p=[]:=by unfold jl fS;rw[h1,h2,if_neg];simp;omega
   rw[hj,ix];exact AI hl k (p+1) a b hV (by rw[show p+1+k=p+(k+1)from by omega];exact ha.skip h1) (by rw[show p+1+k=p+(k+1)from by omega];exact hb.skip h2)
theorem bL (least:Int) (a b:List Fo) (k:Nat):pg least a b 0 (k+1)=pg least a b 0 k++jl least a b k:=by
 unfold pg;rw[List.range'_concat];simp
theorem CK {least:Int} (hl:1<=least) {a b:List Fo} {m:Nat} (ha:∀p∈a,p.1<m) (hb:∀p∈b,p.1<m):∀k:Nat,m<=k->pg least a b 0 k=pg least a b 0 m
 |k,h=>by
  rcases cT m k with h1|h1
  ·obtain⟨c,rfl⟩:∃c,k=c+1:=⟨k-1,by omega⟩
   have key:∀l:List Fo,(∀p∈l,p.1<m)->dY l (c:Int)=false:=λl hl=>by
    unfold dY;rw[List.any_eq_false];intro p hp;have:=hl p hp;simp only[decide_eq_true_eq];omega
   have hj:jl least a b c=[]:=by unfold jl fS;rw[key a ha,key b hb,if_neg];simp;omega
   rw[bL,hj,bz,CK hl ha hb c hV]
  ·rw[show k=m from by omega]
theorem eG (least:Int) (a b:List Fo):∀k,(pg least a b 0 k).length<=k
 |0=>by simp[pg]
 |k+1=>by
  rw[bL,bT];have:=eG least a b k;unfold jl;split<;>simp<;>omega
def AtR (l:List Fo) (d r:Int):Prop:=(∃i:Nat,r=i/\dY l d=true/\l[i]? =some (d,bG l d))\/(r= -1/\dY l d=false)
theorem CL:∀{l:List Fo} {i:Nat} {d s:Int},l[i]? =some (d,s)->(∀t,t<i->∀q,l[t]? =some q->q.1≠d)->bG l d=s
 |[],_,_,_,h,_=>by simp at h
 |p::l,0,d,s,h,_=>by
  simp at h;subst h;simp[bG]
 |p::l,i+1,d,s,h,ka=>by
  have h0:=ka 0 hV p rfl;rw[bG,if_neg h0];exact CL (i:=i) a84 (λt ht q hq=>ka (t+1) hV q (by simpa using hq))
theorem ir {least:Int} {a b:List Fo} {d:Nat} (h:least<=fS a b (d:Int)):jl least a b d=[((d:Int),bG a (d:Int)+bG b (d:Int))]:=by unfold jl;rw[if_pos h]
theorem iu {least:Int} {a b:List Fo} {d:Nat} (h: ¬least<=fS a b (d:Int)):jl least a b d=[]:=by unfold jl;rw[if_neg h]
def DV (d:Int):Int:=if d<0 then-(d+1)else d
theorem AJ {l:List Fo} {lo hi:Nat} (h:ly l lo hi) {p:Fo} (hx:l[l.length-1]? =some p):∀q∈l,q.1<p.1+1:=λq hq=>by
 obtain⟨t,ht⟩:=bQ.1 hq;obtain⟨h1,h2⟩:=ak.1 ht;obtain⟨h3,h4⟩:=ak.1 hx;rcases cT t (l.length-1)with h5|h5
 ·have:=(pw.1 h.up) t (l.length-1) h1 h3 h5;rw[h2,h4]at this;omega
 ·have e:t=l.length-1:=by omega
  subst e;rw[h4]at h2;subst h2;omega
theorem join_eq {least:Int} (hl:1<=least) {x y:List Fo} (hx:ly x 0 1000) (hy:ly y 0 1000) {mo:Nat} (ha:∀p∈x,p.1<mo) (hb:∀p∈y,p.1<mo) (hm:mo<=1000):BB least x y=pg least x y 0 mo:=by
 rw[AI hl 1000 0 x y q0 hx hy];exact CK hl ha hb 1000 hm
def Vv (l:List Int):Prop:=l.Pairwise (· < ·)/\(∀x∈l,0<=x/\x<1000000)/\l.length<=1000
def Qm (tl:List (List Int)) (x:Int) (n:Nat):Bool:=(List.range n).all λk=>(tl.getD k []).contains (x+1+k)
theorem vQ (tl:List (List Int)) (x:Int) (n:Nat):Qm tl x (n+1)=(Qm tl x n&&(tl.getD n []).contains (x+1+n)):=by simp[Qm,List.range_succ]
def BV (tl:List (List Int)) (l:List Int) (n:Nat):Nat:=((l.take n).filter λx=>Qm tl x tl.length).length
def J5:List (List Int)->Nat
 |[]=>0
 |l::tl=>BV tl l l.length
theorem sa {tl:List (List Int)} {l:List Int} {n:Nat} {x:Int} (h:l[n]? =some x):BV tl l (n+1)=BV tl l n+if Qm tl x tl.length then 1 else 0:=by
 obtain⟨h1,h2⟩:=ak.1 h;unfold BV;rw[eL h1,h2,iJ,bT];congr 1;by_cases hx:Qm tl x tl.length=true
 ·rw[if_pos hx];simp[List.filter,hx]
 ·rw[if_neg hx];simp[List.filter,hx]
theorem T2 (tl:List (List Int)) (l:List Int) (n:Nat):BV tl l n<=n:=by
 unfold BV;refine ch (fA _ _) ?_;rw[bI];omega
theorem ak9 (n:Nat):((n:Int)).fdiv (2^min (Int.toNat 1) IntKind.u64.bits)=((n/2:Nat):Int):=by
 change Int.fdiv (n:Int) 2=_;rw[Int.fdiv_eq_ediv_of_nonneg _ q0];omega
theorem DW {l:List Int} (h:l.Pairwise (· < ·)) {i j:Nat} {x y:Int} (hx:l[i]? =some x) (hy:l[j]? =some y) (jS:i<j):x<y:=by
 obtain⟨h1,h2⟩:=ak.1 hx;obtain⟨h3,h4⟩:=ak.1 hy;rw[<-h2,<-h4];exact(pw.1 h) i j h1 h3 jS
theorem Iy {l:List Int} (h:l.Pairwise (· < ·)) {x:Int} {i:Nat} (h1:∀t y,t<i->l[t]? =some y->y<x) (h2:∀t y,i<=t->l[t]? =some y->x<=y):l.contains x=decide (l[i]? =some x):=by
 rw[kq,gu,decide_eq_true_iff];constructor
 ·intro hm;obtain⟨t,ht⟩:=bQ.1 hm;rcases fF t i with h3|h3|h3
  ·have:=h1 t x h3 ht;omega
  ·rw[<-h3];exact ht
  ·have hl:=(ak.1 ht).1;obtain⟨y,hy⟩:∃y,l[i]? =some y:=⟨_,aq hV⟩;have:=DW h hy ht h3;have:=h2 i y (aK _) hy;omega
 ·exact λhm=>ao hm
theorem Iz {M:aP} {w:World} {d s:Int} {v:Value} (h:RT.fo.V M w (d,s) v):v= .agg #[.int .i64 d,.int .i64 s]:=by
 obtain⟨vs,⟨va,vb,rfl,⟨rfl,hd⟩,⟨rfl,hb⟩⟩,rfl⟩:=h;rfl
section
variable {P:Program} {r:Option Nat} {n:Nat} {L:Sl} {ds:List Deferred} {w:World} {K:Kt} {ops:Array Oper} {rest:List Oper} {d:Nat} {x y:Operand} {ty:TypeId} {pos:String} {af:Array Edge}
theorem Rg.adF {t t':TypeId} {a b:Value} {c:Bool} (hg:∀w,(eqGuard .eql t x y a b).run P w= .ok () w) (he:∀w,(binOp .eql t a b).run P w= .ok (.bool c) w) (hx:ev L x=some a) (hy:ev L y=some b) (hd:Nat.blt d n=true)
  (k:Rg P r n ops rest ((d,.bool c)::L) ds w K):
  Rg P r n ops ({dst:=some d,op:= .binOp .eql t x y t',type:=ty,pos,after:=af,guard:=none}::rest) L ds w K:=
 .op a07 rfl rfl hd _ w (λρ h=>by
  simp only[execOp];rw[h x _ hx,h y _ hy];rw[cw,cw,hg];simp[he]) k
end
def iy (f:En->Option Int):Nat->List En->List Fo
 |_,[]=>[]
 |i,e::L=>match f e with
  |some s=>((i:Int),s)::iy f (i+1) L
  |none=>iy f (i+1) L
theorem vR {f:En->Option Int} {p:Fo}:∀{L:List En} {i:Nat},p∈iy f i L↔∃(d:Nat) (e:En),L[d]? =some e/\p.1=((i+d:Nat):Int)/\f e=some p.2
 |[],i=>by simp[iy]
 |e::L,i=>by
  have key:p∈iy f i (e::L)↔(p.1=(i:Int)/\f e=some p.2)\/p∈iy f (i+1) L:=by
   rw[iy]
   cases he:f e with
   |none=>simp
   |some s=>
    rw[dg];constructor
    ·rintro(h|h)
     ·exact .inl ⟨by rw[h],by rw[h]⟩
     ·exact .inr h
    ·rintro(⟨h1,h2⟩|h)
     ·exact .inl (Prod.ext h1 (by simpa using h2.symm))
     ·exact .inr h
  rw[key,vR (L:=L)];constructor
  ·rintro(⟨h1,h2⟩|⟨d,x,h1,h2,h3⟩)
   ·exact⟨0,e,G,h1,h2⟩
   ·exact⟨d+1,x,by simpa using h1,by rw[h2];congr 1;omega,h3⟩
  ·rintro⟨d,x,h1,h2,h3⟩
   cases d with
   |zero=>simp at h1;subst h1;exact .inl ⟨h2,h3⟩
   |succ d=>exact .inr ⟨d,x,by simpa using h1,by rw[h2];congr 1;omega,h3⟩
theorem qc {f:En->Option Int} {L:List En} {i:Nat} {p:Fo} (h:p∈iy f i L):(i:Int)<=p.1/\p.1<i+L.length:=by
 obtain⟨d,e,h1,h2,_⟩:=vR.1 h;have:=(ak.1 h1).1;omega
theorem IA {f:En->Option Int}:∀(L:List En) (i:Nat),(iy f i L).Pairwise λa b=>a.1<b.1
 |[],_=>List.Pairwise.nil
 |e::L,i=>by
  rw[iy]
  split
  ·refine gC.2 ⟨λp hp=>?_,IA L (i+1)⟩;have:=qc hp;simp only;omega
  ·exact IA L (i+1)
theorem mi {f:En->Option Int}:∀(L:List En) (i:Nat),(iy f i L).length<=L.length
 |[],_=>aK _
 |e::L,i=>by
  have:=mi (f:=f) L (i+1);rw[iy]
  split<;>simp only[cR]<;>omega
theorem jt {f g:En->Option Int}:∀{L:List En} {i:Nat},(∀e∈L,f e=g e)->iy f i L=iy g i L
 |[],_,_=>rfl
 |e::L,i,h=>by rw[iy,iy,h e (bE ..),jt (L:=L) λx hx=>h x (cn _ hx)]
def DX (f:En->Option Int) (i:Nat) (e:En):List Fo:=match f e with
 |some s=>[((i:Int),s)]
 |none=>[]
theorem AK {f:En->Option Int} {e:En}:∀(L:List En) (i:Nat),iy f i (L++[e])=iy f i L++DX f (i+L.length) e
 |[],i=>by
  show iy f i [e]=[]++_;rw[iy,iy,DX];cases f e<;>simp
 |x::L,i=>by
  rw[wK,iy,iy,AK L (i+1),show i+1+L.length=i+(x::L).length by simp only[cR];omega]
  cases f x<;>simp
theorem vS {f:En->Option Int} {L:List En} {i:Nat} {e:En} (h:L[i]? =some e):iy f 0 (L.take (i+1))=iy f 0 (L.take i)++DX f i e:=by
 have hi:=(ak.1 h).1;rw[cj,h,dS,AK,bI,yZ (Nat.le_of_lt hi),oH]
theorem adG {l:List Fo} {x i:Int} (h:∀p∈l,i<=p.1) (hx:i<=x):i<=mn l x:=by
 unfold mn
 cases l with
 |nil=>exact hx
 |cons p l=>have:=h p (bE ..);simp only;omega
theorem J6 {l:List Fo} {x:Int} (h:∀p∈l,x<=p.1):mn l x=x:=by
 unfold mn
 cases l with
 |nil=>rfl
 |cons p l=>have:=h p (bE ..);simp only;omega
theorem Qn {l:List Fo} {x:Int} (h:∀p∈l,x<p.1):hit l x=false:=by
 unfold hit
 cases l with
 |nil=>rfl
 |cons p l=>have:=h p (bE ..);simp only[decide_eq_false_iff_not];omega
theorem J7 {l:List Fo} {x:Int} (h:hit l x=false):eW l x=l:=by unfold eW;rw[h];rfl
theorem yV {x:Int} (h:0<=x/\x<=9223372036854775807):IntKind.i64.wrap x=x:=by
 show(if(true&&decide (x%18446744073709551616>=9223372036854775808))=true then x%18446744073709551616-18446744073709551616 else x%18446744073709551616)=x;rw[Int.emod_eq_of_lt h.1 hV,if_neg a06]
def Qo (a b:Option Int):Option Int:=match a,b with
 |some x,some y=>some (x+y)
 |_,_=>none
def orO (a b:Option Int):Option Int:=match a,b with
 |none,none=>none
 |a,b=>some (a.getD 0+b.getD 0)
def l4 (least:Int) (a b:Option Int):Option Int:=if least<=1 then orO a b else Qo a b
theorem DY {least:Int} (hl:least=1\/least=2) {f g:En->Option Int}:∀(L:List En) (i:Nat),i+L.length<=2147483648->(∀e∈L,∀s,(f e=some s\/g e=some s)->0<=s/\s<=4611686018427387903)->BB least (iy f i L) (iy g i L)=iy (λe=>l4 least (f e) (g e)) i L
 |[],i,_,_=>rfl
 |e::L,i,hi,hb=>by
  have ih:=DY hl (f:=f) (g:=g) L (i+1) (by simp only[cR]at hi;omega) λx hx=>hb x (cn _ hx)
  simp only[cR]at hi;have ra:∀p∈iy f (i+1) L,(i:Int)<p.1:=λp hp=>by have:=qc hp;omega
  have rb:∀p∈iy g (i+1) L,(i:Int)<p.1:=λp hp=>by have:=qc hp;omega
  have oa:qR (iy f (i+1) L):=λp hp=>by have:=qc hp;omega
  have ob:qR (iy g (i+1) L):=λp hp=>by have:=qc hp;omega
  have Vc:=hb e (bE ..);rw[iy,iy,iy];generalize iy f (i+1) L=a at ih ra oa;generalize iy g (i+1) L=b at ih rb ob
  have ca:∀x:Int,qR (((i:Int),x)::a):=λx p hp=>by
   rcases dg.1 hp with rfl|hp
   ·simp only;omega
   ·exact oa p hp
  have cb:∀x:Int,qR (((i:Int),x)::b):=λx p hp=>by
   rcases dg.1 hp with rfl|hp
   ·simp only;omega
   ·exact ob p hp
  have la:=λx hx=>adG (l:=a) (x:=x) (i:=(i:Int)) (λp hp=>by have:=ra p hp;omega) hx
  have na:=Qn ra;have nb:=Qn rb;have h0:mn a (i:Int)=i:=J6 λp hp=>by have:=ra p hp;omega
  have h1:mn b (i:Int)=i:=J6 λp hp=>by have:=rb p hp;omega
  have hc:∀(x:Int) (l:List Fo),hit (((i:Int),x)::l) i=true:=λx l=>by simp[hit]
  have hr:∀(x:Int) (l:List Fo),eW (((i:Int),x)::l) i=l:=λx l=>by unfold eW;rw[hc];rfl
  have m0:min (2147483648:Int) (i:Int)=i:=by omega
  cases hf:f e with
  |none=>
   cases hg:g e with
   |none=>
    have:l4 least none none=none:=by unfold l4;split<;>rfl
    simp only[this];exact ih
   |some y=>
    have hy:=Vc y (.inr hg)
    have hx:iZ a (((i:Int),y)::b)=i:=by
     show min (mn a 2147483648) (i:Int)=i;have:=la 2147483648 hV;omega
    have hm:sw a (((i:Int),y)::b) 2=1:=by simp[sw,mV,hx,na,hc]
    have hs:sx a (((i:Int),y)::b) 2=y:=by
     simp only[sx,lW,hx,na,hc];simp;exact yV hV
    show BB least a (((i:Int),y)::b)=_;rw[ru oa (cb y) (.inr (by simp)),hx,hm,hs,J7 na,hr,ih];rcases hl with rfl|rfl
    ·simp[l4,orO]
    ·simp[l4,Qo]
  |some x=>
   have On:=Vc x (.inl hf)
   cases hg:g e with
   |none=>
    have hx:iZ (((i:Int),x)::a) b=i:=by
     show mn b (min 2147483648 (i:Int))=i;rw[m0,h1]
    have hm:sw (((i:Int),x)::a) b 2=1:=by simp[sw,mV,hx,nb,hc]
    have hs:sx (((i:Int),x)::a) b 2=x:=by
     simp only[sx,lW,hx,nb,hc];simp;exact yV hV
    show BB least (((i:Int),x)::a) b=_;rw[ru (ca x) ob (.inl (by simp)),hx,hm,hs,J7 nb,hr,ih];rcases hl with rfl|rfl
    ·simp[l4,orO]
    ·simp[l4,Qo]
   |some y=>
    have hy:=Vc y (.inr hg)
    have hx:iZ (((i:Int),x)::a) (((i:Int),y)::b)=i:=by
     show min (min 2147483648 (i:Int)) (i:Int)=i;omega
    have hm:sw (((i:Int),x)::a) (((i:Int),y)::b) 2=2:=by simp[sw,mV,hx,hc]
    have hs:sx (((i:Int),x)::a) (((i:Int),y)::b) 2=x+y:=by
     simp only[sx,lW,hx,hc];simp;rw[yV (x:=x) hV,yV hV]
    show BB least (((i:Int),x)::a) (((i:Int),y)::b)=_;rw[ru (ca x) (cb y) (.inl (by simp)),hx,hm,hs,hr,hr,ih];rcases hl with rfl|rfl
    ·simp[l4,orO]
    ·simp[l4,Qo]
def Qp (a:Option Int):Option Int:=match a with
 |some _=>none
 |none=>some 0
theorem Qq {f:En->Option Int} {L:List En} {d:Nat} {e:En} (h:L[d]? =some e):dY (iy f 0 L) (d:Int)=(f e).isSome:=by
 rw[kq];unfold dY;rw[jP];constructor
 ·rintro⟨p,hp,hd⟩;obtain⟨d',x,h1,h2,h3⟩:=vR.1 hp;have hd:p.1=(d:Int):=by simpa using hd
  obtain rfl:d'=d:=by omega
  rw[h]at h1;cases h1;rw[h3];rfl
 ·intro hs;obtain⟨s,hs⟩:=Option.isSome_iff_exists.1 hs;exact⟨((d:Int),s),vR.2 ⟨d,e,h,by simp,hs⟩,by simp⟩
theorem CM {f:En->Option Int} {L:List En}:∀k,k<=L.length->pK (iy f 0 L) k=iy (λe=>Qp (f e)) 0 (L.take k)
 |0,_=>by simp[pK,iy]
 |k+1,hk=>by
  obtain⟨e,he⟩:∃e,L[k]? =some e:=⟨_,aq hV⟩;have ih:=CM (f:=f) (L:=L) k hV;rw[vS he,<-ih];unfold pK;rw[List.range_succ,iJ,eH];congr 1;rw[List.filter_cons,Qq he,DX]
  cases f e<;>simp[Qp]
theorem Gi {f:En->Option Int} {L:List En}:pK (iy f 0 L) L.length=iy (λe=>Qp (f e)) 0 L:=by
 rw[CM _ (aK _),bM (aK _)]
theorem qd (ws:List (List UInt8)) (x:List UInt8):jO ws x=((List.range ws.length).filter λi=>decide (ws[i]? =some x)).map fun(i:Nat)=>(i:Int):=by
 have key:∀k,k<=ws.length->jO (ws.take k) x=((List.range k).filter λi=>decide (ws[i]? =some x)).map fun(i:Nat)=>(i:Int):=by
  intro k
  induction k with
  |zero=>intro _;simp[jO]
  |succ k ih=>
   intro hk;obtain⟨y,hy⟩:∃y,ws[k]? =some y:=⟨_,aq hV⟩;rw[LF hy,ih hV,List.range_succ,iJ,eH];by_cases e:y=x
   ·subst e;rw[if_pos rfl];simp[List.filter,hy]
   ·rw[if_neg e];simp[hy,e]
 have:=key ws.length (aK _)
 rwa [bM (aK _)]at this
theorem Gj {ws:List (List UInt8)} {x:List UInt8} {i:Nat}:(jO ws x).contains (i:Int)=decide (ws[i]? =some x):=by
 rw[kq,gu,qd,decide_eq_true_iff];constructor
 ·intro h;obtain⟨j,hj,e⟩:=cO.1 h;have:=(kr.1 hj).2;obtain rfl:j=i:=by omega
  simpa using this
 ·intro h;exact cO.2 ⟨i,kr.2 ⟨List.mem_range.2 (ak.1 h).1,by simpa using h⟩,rfl⟩
def Qr (ws xs:List (List UInt8)) (n:Nat):Nat:=((List.range n).filter λi=>decide ((ws.drop i).take xs.length=xs)).length
def xG (ws xs:List (List UInt8)):Nat:=if xs=[]then 0 else Qr ws xs ws.length
theorem T3 (ws xs:List (List UInt8)) (n:Nat):Qr ws xs n<=n:=by
 unfold Qr;exact ch (fA _ _) (by simp)
theorem J8 (ws xs:List (List UInt8)):xG ws xs<=ws.length:=by
 unfold xG;split
 ·exact bA _
 ·exact T3 _ _ _
theorem YJ {ws:List (List UInt8)} {x:List UInt8} {tl:List (List UInt8)} {i:Nat}:(ws.drop i).take (x::tl).length=x::tl↔ws[i]? =some x/\∀k,k<tl.length->ws[i+1+k]? =tl[k]? :=by
 have hg:∀j,j<(x::tl).length->((ws.drop i).take (x::tl).length)[j]? =ws[i+j]? :=λj hj=>by rw[dR,if_pos hj,iI]
 constructor
 ·intro h;refine⟨?_,λk hk=>?_⟩
  ·have:=hg 0 (by simp);rw[h]at this;simpa using this.symm
  ·have:=hg (k+1) (by simpa using hk);rw[h]at this;rw[show i+1+k=i+(k+1) by omega,<-this];simp
 ·rintro⟨h1,h2⟩;apply jn;intro j;rcases cT j (x::tl).length with hj|hj
  ·rw[hg j hj]
   cases j with
   |zero=>simpa using h1
   |succ j=>rw[show i+(j+1)=i+1+j by omega,h2 j a95];simp
  ·rw[dO hj,dO (by rw[bI];omega)]
theorem Qs {ws:List (List UInt8)} {tl:List (List UInt8)} {i:Nat}:Qm (tl.map (jO ws)) (i:Int) (tl.map (jO ws)).length=true↔∀k,k<tl.length->ws[i+1+k]? =tl[k]? :=by
 unfold Qm;rw[eI,cg];constructor
 ·intro h k hk;have:=h k (List.mem_range.2 hk);have qx:tl[k]? =some tl[k]:=aq hk;rw[cL,eX,qx,show(i:Int)+1+(k:Int)=((i+1+k:Nat):Int) by omega]at this;simp only[fP,Option.getD_some]at this;rw[Gj,decide_eq_true_iff]at this;rw[qx];exact this
 ·intro h k hk;have hk:=List.mem_range.1 hk;have qx:tl[k]? =some tl[k]:=aq hk;rw[cL,eX,qx,show(i:Int)+1+(k:Int)=((i+1+k:Nat):Int) by omega];simp only[fP,Option.getD_some];rw[Gj,decide_eq_true_iff,h k hk,qx]
theorem Qt (ws:List (List UInt8)) (x:List UInt8) (tl:List (List UInt8)):J5 ((x::tl).map (jO ws))=xG ws (x::tl):=by
 rw[fx];show BV _ _ _=_;unfold xG BV Qr;rw[if_neg (by simp),bM (aK _)]
 conv=>lhs;rw[qd ws x]
 rw[List.filter_map,cg,List.filter_filter];congr 1;refine List.filter_congr λi _=> ?_
 rw[kq];simp only[Function.comp,cC,decide_eq_true_iff];rw[Qs,YJ];exact⟨λh=>⟨h.2,h.1⟩,λh=>⟨h.2,h.1⟩⟩
def yG (n:Nat):Option Int:=if 0<n then some (n:Int)else none
def qL (l:List (Option Int)):Int:=(l.map λo=>o.getD 0).sum
mutual
def fJ (fs:List Fd):Qy->Option Int
 |.mk k t ws ks=>
  if k=1 then yG (jO (ej fs t.1) t.2).length
  else if k=5 then yG (xG (ej fs t.1) ws)
  else if k=2 then(if(vT fs ks).all Option.isSome=true then some (qL (vT fs ks))else none)
  else if k=3 then(if(vT fs ks).any Option.isSome=true then some (qL (vT fs ks))else none)
  else(if(vT fs ks).any Option.isSome=true then none else some 0)
def vT (fs:List Fd):List Qy->List (Option Int)
 |[]=>[]
 |q::ks=>fJ fs q::vT fs ks
end
theorem AL (fs:List Fd):∀ks,vT fs ks=ks.map (fJ fs)
 |[]=>by rw[vT];rfl
 |q::ks=>by rw[vT,AL fs ks];rfl
def dh (w:List UInt8):Bool:=decide (words w=[w]/\w.length<=30)
def km (k:Int) (t:Fd) (ws:List (List UInt8)) (n:Nat):Int:=
 if k<1\/5<k then 9
 else if 2<=k/\k<=4 then(if¬t=([],[])\/¬ws=[]\/n=0 then 9 else if 8<n\/(k=4/\1<n)then 7 else 0)
 else if 0<n\/(k=1/\¬ws=[])\/(k=5/\¬t.2=[])then 9
 else if eK t.1=false then 4
 else if k=1 then(if dh t.2=true then 0 else 9)
 else if ws=[]then 9 else if ws.all dh=false then 9 else if 6<ws.length then 7 else 0
mutual
def iv:Qy->Nat->Int
 |.mk k t ws ks,deep=>if 6<deep then 8 else if¬km k t ws ks.length=0 then km k t ws ks.length else vU ks (deep+1)
def vU:List Qy->Nat->Int
 |[],_=>0
 |q::ks,deep=>if¬iv q deep=0 then iv q deep else vU ks deep
end
def fK (k:Int):Int:=1+DV k%5
def eZ (s:List UInt8):List UInt8:=if eK s=true then s else[116]
def J9 (t:Fd):Qy:= .mk 1 (eZ t.1,if dh t.2=true then t.2 else[97]) [] []
def j7 (ws:List (List UInt8)):List (List UInt8):=(ws.take 3).filter dh
mutual
def fL:Qy->Nat->Qy
 |.mk k t ws ks,deep=>
  if(2<=fK k/\fK k<=4)/\deep<4/\¬ks=[]then .mk (fK k) ([],[]) [] ((qe ks (deep+1)).take (if fK k=4 then 1 else 3))
  else if fK k=5/\¬j7 ws=[]then .mk 5 (eZ t.1,[]) (j7 ws) []
  else J9 t
def qe:List Qy->Nat->List Qy
 |[],_=>[]
 |q::ks,deep=>fL q deep::qe ks deep
end
theorem uc:∀(ks:List Qy) (deep:Nat),qe ks deep=ks.map λq=>fL q deep
 |[],_=>by rw[qe];rfl
 |q::ks,deep=>by rw[qe,uc ks deep];rfl
theorem AM:∀{ks:List Qy} {deep:Nat},vU ks deep=0↔∀q∈ks,iv q deep=0
 |[],_=>by rw[vU];simp
 |q::ks,deep=>by
  rw[vU,List.forall_mem_cons,<-AM (ks:=ks)];by_cases h:iv q deep=0
  ·rw[if_neg (λh'=>h' h)];simp[h]
  ·rw[if_pos h];simp[h]
theorem n4 {k:Int} {t:Fd} {ws:List (List UInt8)} {ks:List Qy} {deep:Nat}:iv (.mk k t ws ks) deep=0↔deep<=6/\km k t ws ks.length=0/\∀q∈ks,iv q (deep+1)=0:=by
 rw[iv,<-AM];by_cases h:6<deep
 ·rw[if_pos h];constructor
  ·intro h';cases h'
  ·rintro⟨h',_⟩;omega
 ·rw[if_neg h];by_cases h2:km k t ws ks.length=0
  ·rw[if_neg (λh'=>h' h2)];exact⟨λh3=>⟨by omega,h2,h3⟩,λh3=>h3.2.2⟩
  ·rw[if_pos h2];exact⟨λh3=>absurd h3 h2,λh3=>h3.2.1⟩
theorem AN {k:Int} {t:Fd} {ws:List (List UInt8)} {n:Nat} (h:km k t ws n=0):(k=1/\n=0/\eK t.1=true/\dh t.2=true)\/(k=5/\n=0/\eK t.1=true/\¬ws=[]/\ws.all dh=true/\ws.length<=6)\/((k=2\/k=3)/\0<n/\n<=8)\/(k=4/\n=1):=by
 unfold km at h;by_cases h1:k<1\/5<k
 ·rw[if_pos h1]at h;cases h
 rw[if_neg h1]at h;by_cases h2:2<=k/\k<=4
 ·rw[if_pos h2]at h;by_cases h3: ¬t=([],[])\/¬ws=[]\/n=0
  ·rw[if_pos h3]at h;cases h
  rw[if_neg h3]at h;by_cases h4:8<n\/(k=4/\1<n)
  ·rw[if_pos h4]at h;cases h
  have h5: ¬n=0:=λe=>h3 (.inr (.inr e))
  by_cases h6:k=4
  ·exact .inr (.inr (.inr ⟨h6,by omega⟩))
  ·exact .inr (.inr (.inl ⟨by omega,by omega,by omega⟩))
 ·rw[if_neg h2]at h;by_cases h3:0<n\/(k=1/\¬ws=[])\/(k=5/\¬t.2=[])
  ·rw[if_pos h3]at h;cases h
  rw[if_neg h3]at h
  have hn:n=0:=by
   rcases Nat.eq_zero_or_pos n with h4|h4
   ·exact h4
   ·exact absurd (.inl h4) h3
  cases h4:eK t.1 with
  |false=>rw[if_pos h4]at h;cases h
  |true=>
   rw[if_neg (by rw[h4];decide)]at h;by_cases h5:k=1
   ·rw[if_pos h5]at h;by_cases h6:dh t.2=true
    ·exact .inl ⟨h5,hn,G,h6⟩
    ·rw[if_neg h6]at h;cases h
   ·rw[if_neg h5]at h;by_cases h6:ws=[]
    ·rw[if_pos h6]at h;cases h
    rw[if_neg h6]at h;by_cases h7:ws.all dh=false
    ·rw[if_pos h7]at h;cases h
    rw[if_neg h7]at h;by_cases h8:6<ws.length
    ·rw[if_pos h8]at h;cases h
    exact .inr (.inl ⟨by omega,hn,rfl,h6,by simpa using h7,by omega⟩)
def ud (deep:Nat):Int:=500*8^(7-deep)
theorem Gk {l:List (Option Int)} {B:Int} (hB:0<=B) (h:∀o∈l,∀s,o=some s->0<=s/\s<=B):0<=qL l/\qL l<=l.length*B:=by
 unfold qL
 induction l with
 |nil=>simp
 |cons o l ih=>
  obtain⟨h1,h2⟩:=ih λx hx=>h x (cn _ hx)
  have h3:0<=o.getD 0/\o.getD 0<=B:=by
   cases o with
   |none=>exact⟨oh _,hB⟩
   |some s=>exact h _ (bE ..) s rfl
  have h4:((o::l).length:Int)*B=l.length*B+B:=by
   simp only[cR];rw[show((l.length+1:Nat):Int)=(l.length:Int)+1 by omega,Int.add_mul,Int.one_mul]
  rw[fx,List.sum_cons,h4];omega
theorem Gl (deep:Nat):0<=ud deep:=by unfold ud;exact Int.mul_nonneg q0 (Int.pow_nonneg q0)
theorem LM {deep:Nat} (h:deep<=6):ud deep=8*ud (deep+1):=by
 unfold ud;obtain⟨n,hn⟩:∃n,7-deep=n+1:=⟨7-deep-1,by omega⟩;rw[show 7-(deep+1)=n by omega,hn,Int.pow_succ];omega
theorem IB {deep:Nat}:500<=ud deep:=by
 unfold ud;have:(0:Int)<8^(7-deep):=Int.pow_pos q0;omega
theorem xH {deep:Nat} (h:1<=deep):ud deep<=131072000:=by
 unfold ud;have:deep=1\/deep=2\/deep=3\/deep=4\/deep=5\/deep=6\/7<=deep:=by omega
 rcases this with rfl|rfl|rfl|rfl|rfl|rfl|h
 all_goals try decide
 rw[show 7-deep=0 by omega];decide
mutual
theorem ph (fs:List Fd) (hw:∀k,(ej fs k).length<=500):∀(q:Qy) (deep:Nat),iv q deep=0->∀s,fJ fs q=some s->0<=s/\s<=ud deep
 |.mk k t ws ks,deep,hm,s,hs=>by
  obtain⟨h1,h2,h3⟩:=n4.1 hm;have hc:=IB (deep:=deep);have h4:=Gm fs hw ks (deep+1) h3;have h5:(vT fs ks).length=ks.length:=by rw[AL,cg]
  have hcs:=LM h1;have hcp:=Gl (deep+1);have h6:=Gk hcp h4;rw[fJ]at hs
  have hcn:∀n:Nat,n<=500->yG n=some s->0<=s/\s<=ud deep:=λn hn h=>by
   unfold yG at h
   split at h
   ·cases h;omega
   ·cases h
  have Yo:(k=2\/k=3)->ks.length<=8:=λhk=>by
   rcases AN h2 with⟨h,_⟩|⟨h,_⟩|⟨_,_,h⟩|⟨h,_⟩
   ·omega
   ·omega
   ·exact h
   ·omega
  have adI:ks.length<=8->qL (vT fs ks)<=ud deep:=λh=>by
   rw[h5]at h6;have:=Int.mul_le_mul_of_nonneg_right (show(ks.length:Int)<=8 by omega) hcp;omega
  split at hs
  ·exact hcn _ (ch (Gc _ _) (hw _)) hs
  ·split at hs
   ·exact hcn _ (ch (J8 _ _) (hw _)) hs
   ·split at hs
    ·rename_i hk
     split at hs
     ·cases hs;exact⟨h6.1,adI (Yo (.inl hk))⟩
     ·cases hs
    ·split at hs
     ·rename_i hk
      split at hs
      ·cases hs;exact⟨h6.1,adI (Yo (.inr hk))⟩
      ·cases hs
     ·split at hs
      ·cases hs
      ·cases hs;omega
theorem Gm (fs:List Fd) (hw:∀k,(ej fs k).length<=500):∀(ks:List Qy) (deep:Nat),(∀q∈ks,iv q deep=0)->∀o∈vT fs ks,∀s,o=some s->0<=s/\s<=ud deep
 |[],_,_,o,ho,_,_=>by rw[vT]at ho;cases ho
 |q::ks,deep,hm,o,ho,s,hs=>by
  rw[vT]at ho;rcases dg.1 ho with h|h
  ·exact ph fs hw q deep (hm q (bE ..)) s (by rw[<-h];exact hs)
  ·exact Gm fs hw ks deep (λx hx=>hm x (cn _ hx)) o h s hs
end
theorem w97:dh [97]=true:=by
 unfold dh;rw[decide_eq_true_iff];refine⟨?_,by decide⟩;have:=Qe;simpa using this
theorem T4:eK [116]=true:=by decide
theorem CN (s:List UInt8):eK (eZ s)=true:=by
 unfold eZ
 split
 ·assumption
 ·exact T4
theorem LN (ws:List (List UInt8)):(j7 ws).all dh=true/\(j7 ws).length<=3:=by
 unfold j7;refine⟨by simp,ch (fA _ _) (by rw[bI];omega)⟩
theorem CO (k:Int):1<=fK k/\fK k<=5:=by
 unfold fK;have h1:=Int.emod_nonneg (DV k) (show(5:Int)≠0 by decide);have h2:=Int.emod_lt_of_pos (DV k) (show(0:Int)<5 by decide);omega
theorem LO (t:Fd) {deep:Nat} (h:deep<=6):iv (J9 t) deep=0:=by
 unfold J9;refine n4.2 ⟨h,?_,λq hq=>by cases hq⟩;unfold km
 have hw:dh (if dh t.2=true then t.2 else[97])=true:=by
  split
  ·assumption
  ·exact w97
 rw[if_neg hV,if_neg hV,if_neg (by simp),if_neg (by rw[CN];decide),if_pos rfl,if_pos hw]
mutual
theorem xI:∀(q:Qy) (deep:Nat),deep<=4->iv (fL q deep) deep=0
 |.mk k t ws ks,deep,hd=>by
  have hk:=CO k;rw[fL]
  split
  ·rename_i h
   obtain⟨h1,h2,h3⟩:=h;have hm:=AO ks (deep+1) hV;have hl:(qe ks (deep+1)).length=ks.length:=by rw[uc,cg]
   have hp:0<ks.length:=eA.2 h3;refine n4.2 ⟨by omega,?_,λq hq=>hm q (List.mem_of_mem_take hq)⟩;unfold km;rw[if_neg hV,if_pos h1];by_cases h4:fK k=4
   ·rw[if_pos h4,bI,hl,if_neg a06,if_neg hV]
   ·rw[if_neg h4,bI,hl,if_neg a06,if_neg hV]
  ·split
   ·rename_i h
    obtain⟨h1,h2⟩:=h;obtain⟨h3,h4⟩:=LN ws;refine n4.2 ⟨by omega,?_,λq hq=>by cases hq⟩;unfold km;rw[if_neg hV,if_neg hV,if_neg (by simp),if_neg (by rw[CN];decide),if_neg q0,if_neg h2,if_neg (by rw[h3];decide),if_neg hV]
   ·exact LO t hV
theorem AO:∀(ks:List Qy) (deep:Nat),deep<=4->∀q∈qe ks deep,iv q deep=0
 |[],_,_,q,hq=>by rw[qe]at hq;cases hq
 |x::ks,deep,hd,q,hq=>by
  rw[qe]at hq;rcases dg.1 hq with h|h
  ·rw[h];exact xI x deep hd
  ·exact AO ks deep hd q h
end
theorem CP {d:Dc} (h:iT d) (i:Nat) (t:Fd):Fy i (cQ d.2) (dv t)=if 0<(jO (ej d.2 t.1) t.2).length then[((i:Int),jO (ej d.2 t.1) t.2)]else[]:=by
 have hp:=Qk h i t;rcases yR h i (dv t)with h1|⟨u,hu,hk,h1⟩
 ·rw[h1,if_neg (λhn=>(hp.2 hn) h1)]
 ·rw[h1,if_pos (hp.1 (by rw[h1];simp))];have Kw:=(jr h.JK).1 hu;obtain⟨f,hf,sm,lU⟩:=ua.1 Kw;have e:u=t:=Gg (by obtain⟨p,hp,rfl⟩:=cO.1 Kw;exact h.JK p hp) (Gf _ _ lU) hk;rw[e,Ql h.once]
def Gn (t:Fd) (e:En):Option Int:=yG (jO (ej e.1.2 t.1) t.2).length
theorem Qu (t:Fd):∀(L:List En) (i:Nat),(∀e∈L,iT e.1)->(Ct (dv t) i L).map (λp=>((p.1:Int),((p.2.length:Nat):Int)))=iy (Gn t) i L
 |[],_,_=>rfl
 |e::L,i,hF=>by
  show(Fy i (cQ e.1.2) (dv t)++Ct (dv t) (i+1) L).map _=_;rw[eH,CP (hF e (by simp)) i t,Qu t L (i+1) (λe' he=>hF e' (by simp[he])),iy,Gn,yG];by_cases h:0<(jO (ej e.1.2 t.1) t.2).length
  ·rw[if_pos h,if_pos h];rfl
  ·rw[if_neg h,if_neg h];rfl
theorem Qv {L:List En} (hF:∀e∈L,iT e.1) {t:Fd} {p:Po}:p∈pk L (dv t)↔∃(d:Nat) (e:En),L[d]? =some e/\p=((d:Int),jO (ej e.1.2 t.1) t.2)/\0<(jO (ej e.1.2 t.1) t.2).length:=by
 have key:∀(L:List En) (i:Nat),(∀e∈L,iT e.1)->(p∈Ct (dv t) i L↔∃(d:Nat) (e:En),L[d]? =some e/\p=(((i+d:Nat):Int),jO (ej e.1.2 t.1) t.2)/\0<(jO (ej e.1.2 t.1) t.2).length):=by
  intro L
  induction L with
  |nil=>intro i _;simp[Ct]
  |cons e L ih=>
   intro i hF;show p∈Fy i (cQ e.1.2) (dv t)++Ct (dv t) (i+1) L↔_;rw[dH,ih (i+1) (λx hx=>hF x (cn _ hx)),CP (hF e (bE ..)) i t];constructor
   ·rintro(h|⟨d,x,h1,h2,h3⟩)
    ·split at h
     ·rename_i hc
      exact⟨0,e,rfl,by simpa using h,hc⟩
     ·cases h
    ·exact⟨d+1,x,by simpa using h1,by rw[h2];congr 2;omega,h3⟩
   ·rintro⟨d,x,h1,h2,h3⟩
    cases d with
    |zero=>simp at h1;subst h1;exact .inl (by rw[if_pos h3,h2];simp)
    |succ d=>exact .inr ⟨d,x,by simpa using h1,by rw[h2];congr 2;omega,h3⟩
 have:=key L 0 hF;simpa[pk]using this
theorem oc {d:Dc} (h:iT d) (k:List UInt8):(ej d.2 k).length<=500:=by
 unfold ej
 split
 ·rename_i f hf
  have hm:=List.mem_of_find?_eq_some hf
  have:(words f.2).length<=(cQ d.2).length:=by
   obtain⟨i,hi⟩:=bQ.1 hm
   have e:cQ d.2=cQ (d.2.take i)++(gU f++cQ (d.2.drop (i+1))):=by
    obtain⟨h1,h2⟩:=ak.1 hi
    have:d.2=d.2.take i++(f::d.2.drop (i+1)):=by
     conv=>lhs;rw[<-iG i d.2,fe h1,h2]
    conv=>lhs;rw[this]
    unfold cQ;rw[List.flatMap_append,List.flatMap_cons]
   rw[e,bT,bT];have:(gU f).length=(words f.2).length:=by unfold gU;simp
   omega
  have:=h.many;omega
 ·simp
end Go.K
namespace Go.K
open Go.Proofs
set_option maxRecDepth 10000
theorem YK {M:aP} {a b:List (List UInt8)} {v u:Value} (w0:World) (hM:Lt M w0) (hv:((RT.str).sl).V M w0 a v) (hu:((RT.str).sl).V M w0 b u):
  Spec Tryz.prog 125 #[v,u] w0 (λv' w'=>v'= .bool (decide (a=b))/\Step M w0 M w' aH):=by
 have jq:=hM;have hla:=dJ hv;have hlb:=dJ hu;refine bD (args:=[_,_]) (fn:=Tryz.f125) Tryz.func125 G (n:=26) Tryz.ntmps125 ?_;have S:Step M w0 M w0 aH:=bg;refine T.aU (Rg.a8 G G (aQ (T.aU (ab G G (bR aI G hv G (ab G G (bR aI G hu G (fG G G G ?_))))))));refine ad ?_;refine bH G (λc1=>?_) (λc1=>?_)
 ·refine T.aU (Rg.a8 G G (aS ?_));exact aT rfl rfl ⟨congrArg Value.bool (decide_eq_false (λe=>by subst e;exact c1 G)).symm,S⟩
 ·have hlen:a.length=b.length:=by omega
  refine aM (aQ (T.aU (Rg.a8 G G (bp ?_))));refine dz (σ:=Nat) (λk=>[(0,v),(1,u),(5,.int .i64 (k:Int))]) (λk w=>Step M w0 M w aH/\((RT.str).sl).V M w a v/\((RT.str).sl).V M w b u/\k<=a.length/\a.take k=b.take k) (λk=>a.length-k) 0 a11 ?_ ?_
  ·exact⟨S,hv,hu,bA _,G⟩
  ·clear S hv hu hM;rintro k w ⟨S,hv,hu,hk,heq⟩;have hM:=S.lt jq;refine aQ (T.aU (ab G G (ab G G (bR aI G hv G (cH G G G (ad ?_))))));refine bH G (λc4=>?_) (λc4=>?_)
   ·refine aM (aQ (bp (aQ ?_)));apply Bw mixed rfl rfl;intro wD6 sA6;have yW:=sA6 M;replace hv:=hv.le yW.le;replace hu:=hu.le yW.le;replace hM:=yW.lt hM;have:=S.size;replace S:=S.ar yW;refine ab G G (Rg.dI (ab G G (Rg.dI ?_)));obtain⟨x,Ju⟩:∃x,a[k]? =some x:=⟨_,aq hV⟩;obtain⟨y,KZ⟩:∃y,b[k]? =some y:=⟨_,aq hV⟩;refine cD aI I9 G G G hv ck hV (λu62 x_ ke Qw=>?_);rw[av]at ke;obtain rfl:=aG (Ju.symm.trans ke);refine Rg.dI ?_;refine bV aE G G G G G Qw ck (λv63 yH=>?_);obtain rfl:=eF yH;refine Rg.dI (ab G G (Rg.dI (ab G G (Rg.dI ?_))));refine cD aI I9 G G G hu ck hV (λu66 x_ ke YL=>?_);rw[av]at ke;obtain rfl:=aG (KZ.symm.trans ke);refine Rg.dI ?_;refine bV aE G G G G G YL ck (λv67 YM=>?_);obtain rfl:=eF YM;refine Rg.dI (Rg.Je G G G (Rg.dI (gV ?_)));refine bH G (λc6=>?_) (λc6=>?_)
    ·refine T.aU (Rg.a8 G G (aS ?_));exact aT rfl rfl ⟨congrArg Value.bool (decide_eq_false (λe=>by subst e;rw[Ju]at KZ;cases KZ;exact c6 G)).symm,S⟩
    ·refine aM (ay (ab G G (aX G G G hV (Rg.a8 G G ?_))));refine⟨G,k+1,a11,?_,?_⟩
     ·exact⟨S,hv,hu,by omega,by rw[cj,cj,heq,Ju,KZ,cF.1 c6]⟩
     ·omega
   ·refine de (T.aU (Rg.a8 G G (aS ?_)));rw[bM hV,bM hV]at heq;exact aT G G ⟨congrArg Value.bool (decide_eq_true heq).symm,S⟩
theorem Qx {M:aP} {a b:List (List UInt8)} {v u:Value} (w0:World) (hM:Lt M w0) (hv:((RT.str).sl).V M w0 a v) (hu:((RT.str).sl).V M w0 b u):
  Spec Tryz.prog 216 #[v,u] w0 (λv' w'=>v'= .bool (decide (a=b))/\Step M w0 M w' aH):=by
 have jq:=hM;have hla:=dJ hv;have hlb:=dJ hu;refine bD (args:=[_,_]) (fn:=Tryz.f216) Tryz.func216 G (n:=26) Tryz.ntmps216 ?_;have S:Step M w0 M w0 aH:=bg;refine T.aU (Rg.a8 G G (aQ (T.aU (ab G G (bR aI G hv G (ab G G (bR aI G hu G (fG G G G ?_))))))));refine ad ?_;refine bH G (λc1=>?_) (λc1=>?_)
 ·refine T.aU (Rg.a8 G G (aS ?_));exact aT rfl rfl ⟨congrArg Value.bool (decide_eq_false (λe=>by subst e;exact c1 G)).symm,S⟩
 ·have hlen:a.length=b.length:=by omega
  refine aM (aQ (T.aU (ab G G (bR aI G hv G (ab G G (ad (bp ?_)))))));refine dz (σ:=Nat) (λk=>[(0,v),(1,u),(12,.int .i64 (a.length:Int)),(13,.int .i64 (k:Int))]) (λk w=>Step M w0 M w aH/\((RT.str).sl).V M w a v/\((RT.str).sl).V M w b u/\k<=a.length/\a.take k=b.take k) (λk=>a.length-k) 0 VS ?_ ?_
  ·exact⟨S,hv,hu,bA _,G⟩
  ·clear S hv hu hM;rintro k w ⟨S,hv,hu,hk,heq⟩;have hM:=S.lt jq;refine T.aU (cH G G G (ad (aQ ?_)));refine bH G (λc4=>?_) (λc4=>?_)
   ·refine aM (aQ (bp (T.aU (ab G G (Rg.a8 G G (aQ ?_))))));apply Bw mixed rfl rfl;intro wD6 sA6;have yW:=sA6 M;replace hv:=hv.le yW.le;replace hu:=hu.le yW.le;replace hM:=yW.lt hM;have:=S.size;replace S:=S.ar yW;refine ab G G (Rg.dI (ab G G (Rg.dI ?_)));obtain⟨x,Ju⟩:∃x,a[k]? =some x:=⟨_,aq hV⟩;obtain⟨y,KZ⟩:∃y,b[k]? =some y:=⟨_,aq hV⟩;refine cD aI I9 G G G hv ck hV (λu62 x_ ke Qw=>?_);rw[av]at ke;obtain rfl:=aG (Ju.symm.trans ke);refine Rg.dI ?_;refine bV aE G G G G G Qw ck (λv63 yH=>?_);obtain rfl:=eF yH;refine Rg.dI (ab G G (Rg.dI (ab G G (Rg.dI ?_))));refine cD aI I9 G G G hu ck hV (λu66 x_ ke YL=>?_);rw[av]at ke;obtain rfl:=aG (KZ.symm.trans ke);refine Rg.dI ?_;refine bV aE G G G G G YL ck (λv67 YM=>?_);obtain rfl:=eF YM;refine Rg.dI (Rg.Je G G G (Rg.dI (gV ?_)));refine bH G (λc6=>?_) (λc6=>?_)
    ·refine T.aU (Rg.a8 G G (aS ?_));exact aT rfl rfl ⟨congrArg Value.bool (decide_eq_false (λe=>by subst e;rw[Ju]at KZ;cases KZ;exact c6 G)).symm,S⟩
    ·refine aM (ay (aX G G G hV (ab G G (ad ?_))));refine⟨G,k+1,VS,?_,?_⟩
     ·exact⟨S,hv,hu,by omega,by rw[cj,cj,heq,Ju,KZ,cF.1 c6]⟩
     ·omega
   ·refine de (T.aU (Rg.a8 G G (aS ?_)));rw[bM hV,bM hV]at heq;exact aT G G ⟨congrArg Value.bool (decide_eq_true heq).symm,S⟩
namespace TKQSame
theorem AP:TI Tryz.prog 26 (.slice none 0 0) 1 24:=by unfold TI;kernel_rfl
theorem gx:TI Tryz.prog 28 (.agg #[(.int .i64 0),(.string ⟨#[]⟩),(.string ⟨#[]⟩),(.slice none 0 0),(.slice none 0 0)]) 5 88:=by unfold TI;kernel_rfl
theorem YN:Enters Tryz.prog 162:=enters Tryz.func162 rfl q0
theorem alb:Enters Tryz.prog 216:=enters Tryz.func216 rfl q0
theorem alc:Enters Tryz.prog 217:=enters Tryz.func217 rfl q0
end TKQSame
open TKQSame
set_option maxRecDepth 10000
theorem LP {M:aP} {n:Nat} {a b:List Qy} {v u:Value} (w0:World) (hM:Lt M w0) (hv:((RT.qy n).sl (aO n)).V M w0 a v) (hu:((RT.qy n).sl (aO n)).V M w0 b u) (ih:∀x∈a,∀y∈b,∀(M:aP) (w:World) (v u:Value),Lt M w->(RT.qy n).V M w x v->(RT.qy n).V M w y u->Spec Tryz.prog 162 #[v,u] w (λv' w'=>v'= .bool (decide (x=y))/\Step M w M w' aH)):
  Spec Tryz.prog 217 #[v,u,.func (.func 162) #[] #[]] w0 (λv' w'=>v'= .bool (decide (a=b))/\Step M w0 M w' aH):=by
 have hla:=dJ hv;have hlb:=dJ hu;refine bD (args:=[_,_,_]) (fn:=Tryz.f217) Tryz.func217 G (n:=32) Tryz.ntmps217 ?_;have S:Step M w0 M w0 aH:=bg;refine T.aU (Rg.a8 G G (aQ (T.aU (ab G G (bR (A:=RT.qy n) (hn:=aO _) cr G hv G (ab G G (bR (A:=RT.qy n) (hn:=aO _) cr G hu G (fG G G G ?_))))))));refine ad ?_;refine bH G (λc1=>?_) (λc1=>?_)
 ·refine T.aU (Rg.a8 G G (aS ?_));exact aT rfl rfl ⟨congrArg Value.bool (decide_eq_false (λe=>by subst e;exact c1 G)).symm,S.back⟩
 ·have hlen:a.length=b.length:=by omega
  refine aM (aQ (T.aU (ab G G (bR (A:=RT.qy n) (hn:=aO _) cr G hv G (ab G G (ad (bp ?_)))))));refine dz (σ:=Nat) (λk=>[(0,v),(1,u),(2,.func (.func 162) #[] #[]),(15,v),(16,.int .i64 (a.length:Int)),(17,.int .i64 (k:Int))]) (λk w=>∃M1,Lt M1 w/\Step M w0 M1 w aH/\((RT.qy n).sl (aO n)).V M1 w a v/\((RT.qy n).sl (aO n)).V M1 w b u/\k<=a.length/\a.take k=b.take k) (λk=>a.length-k) 0 a04 ?_ ?_
  ·exact⟨_,hM,S,hv,hu,bA _,G⟩
  ·clear S hv hu hM;rintro k w ⟨M1,hM,S,hv,hu,hk,heq⟩;refine T.aU (cH G G G (ad (aQ ?_)));refine bH G (λc4=>?_) (λc4=>?_)
   ·refine aM (aQ (bp (T.aU (ab G G ?_))));obtain⟨x,hx⟩:∃x,(a)[k]? =some x:=⟨_,aq hV⟩;refine cD (A:=RT.qy n) (hn:=aO _) (M:=M1) cr (IQ gx _) G G G hv ck hV (λu51 x_ ke YO=>?_);rw[av]at ke;obtain rfl:=aG (hx.symm.trans ke);refine cq (A:=RT.qy (n)) ax G (IQ gx _) (aO _) (ec _) G G YO ck (λv52 yI=>?_);obtain⟨xw,xk,rfl,xr,xl,hxw,hxk⟩:=ox (mW yI);refine eu M1 gx G (λYP abm aul aum sI yA=>?_);obtain⟨Gp,Qz⟩:∃M',M'=ins M1 YP:=⟨_,rfl⟩;rw[<-Qz]at yA;have oB:Gp YP:=by rw[Qz];exact .inl G
    change abm.heap[YP]? =some (.cells #[.int .i64 0,.string ⟨#[]⟩,.string ⟨#[]⟩,.slice none 0 0,.slice none 0 0] _ _)at sI;replace hv:=hv.le yA.le;replace hu:=hu.le yA.le;replace yI:=yI.le yA.le;replace hM:=yA.lt hM;have:=S.size;replace S:=S.ar yA;refine aJ G G ?_;refine dm (M:=Gp) (vs:=[.int .i64 x.kind,.string ⟨x.term.1.toArray⟩,.string ⟨x.term.2.toArray⟩,xw,xk]) gx G G (Dm hxw hxk) G G sI oB (λwq5 gq5 YQ=>?_);have:=ah sI;replace oB:=(YQ.mem _ this).2 oB;replace hv:=hv.le YQ.le;replace hu:=hu.le YQ.le;replace yI:=yI.le YQ.le;replace hM:=YQ.lt hM;have:=S.size;replace S:=S.trans YQ (λk hk h=>by have h:_=_:=h;subst h;first|(exfalso;omega)|(show _<=_;omega)|exact⟨by first|omega|assumption,(S.mem _ hk).1 ((YQ.mem _ (ah sI)).1 oB)⟩|exact .inl rfl|exact .inr rfl|exact .inr (.inl rfl)|exact .inr (.inr rfl)|exact .inr (.inr (.inl rfl))|exact rfl);have Vw:=gq5;clear sI;have sI:=Vw;clear Vw;refine ad (T.aU (ab G G (ab G G ?_)));obtain⟨y,hy⟩:∃x,(b)[k]? =some x:=⟨_,aq hV⟩;refine cD (A:=RT.qy n) (hn:=aO _) (M:=Gp) cr (IQ gx _) G G G hu ck hV (λu62 x_ ke Qw=>?_);rw[av]at ke;obtain rfl:=aG (hy.symm.trans ke);refine cq (A:=RT.qy (n)) ax G (IQ gx _) (aO _) (ec _) G G Qw ck (λv63 yH=>?_);obtain⟨yw,yk,rfl,yr,yl,hyw,hyk⟩:=ox (mW yH);refine eu Gp gx G (λYR ale auq aur BW DZ=>?_);obtain⟨Vx,QA⟩:∃M',M'=ins Gp YR:=⟨_,rfl⟩;rw[<-QA]at DZ;have xJ:Vx YR:=by rw[QA];exact .inl G
    change ale.heap[YR]? =some (.cells #[.int .i64 0,.string ⟨#[]⟩,.string ⟨#[]⟩,.slice none 0 0,.slice none 0 0] _ _)at BW;have:=ah sI;replace oB:=(DZ.mem _ this).2 oB;replace sI:=DZ.aF sI;replace hv:=hv.le DZ.le;replace hu:=hu.le DZ.le;replace yI:=yI.le DZ.le;replace yH:=yH.le DZ.le;replace hM:=DZ.lt hM;have:=S.size;replace S:=S.ar DZ;refine dm (M:=Vx) (vs:=[.int .i64 y.kind,.string ⟨y.term.1.toArray⟩,.string ⟨y.term.2.toArray⟩,yw,yk]) gx G G (Dm hyw hyk) G G BW xJ (λwq6 gq6 RI=>?_);have:=ah sI;replace oB:=(RI.mem _ this).2 oB;replace sI:=RI.bY sI a05;have:=ah BW;replace xJ:=(RI.mem _ this).2 xJ;replace hv:=hv.le RI.le;replace hu:=hu.le RI.le;replace yI:=yI.le RI.le;replace yH:=yH.le RI.le;replace hM:=RI.lt hM;have:=S.size;replace S:=S.trans RI (λk hk h=>by have h:_=_:=h;subst h;first|(exfalso;omega)|(show _<=_;omega)|exact⟨by first|omega|assumption,(S.mem _ hk).1 ((RI.mem _ (ah BW)).1 xJ)⟩|exact .inl rfl|exact .inr rfl|exact .inr (.inl rfl)|exact .inr (.inr rfl)|exact .inr (.inr (.inl rfl))|exact rfl);have Vy:=gq6;clear BW;have BW:=Vy;clear Vy;refine ad (T.aU (ab G G (eM (vs:=[.int .i64 x.kind,.string ⟨x.term.1.toArray⟩,.string ⟨x.term.2.toArray⟩,xw,xk]) ax G gx G G G sI (eM (vs:=[.int .i64 y.kind,.string ⟨y.term.1.toArray⟩,.string ⟨y.term.2.toArray⟩,yw,yk]) ax G gx G G G BW ?_))));refine wJ (first:=[]) (captured:=[]) (xs:=[.tmp 27,.tmp 28]) G G G YN (ih x (ao hx) y (ao hy) _ _ _ _ hM yI yH) (λr7 w7 hc=>?_);obtain⟨rfl,s7⟩:=hc;have:=ah sI;replace oB:=(s7.mem _ this).2 oB;replace sI:=s7.aF sI;have:=ah BW;replace xJ:=(s7.mem _ this).2 xJ;replace BW:=s7.aF BW;replace hv:=hv.le s7.le
    replace hu:=hu.le s7.le;replace yI:=yI.le s7.le;replace yH:=yH.le s7.le;replace hM:=s7.lt hM;have:=S.size;replace S:=S.ar s7;refine jd G G (aZ (v':= .bool (decide (¬x=y))) (by simp) (ad ?_));refine bH G (λc7=>?_) (λc7=>?_)
    ·refine T.aU (Rg.a8 G G (aS ?_));exact aT rfl rfl ⟨congrArg Value.bool (decide_eq_false (λe=>by subst e;rw[hx]at hy;cases hy;exact c7 G)).symm,S.back⟩
    ·refine aM (ay (aX G G G hV (ab G G (ad ?_))));refine⟨G,k+1,a04,?_,?_⟩
     ·exact⟨_,hM,S,hv,hu,by omega,by rw[cj,cj,heq,hx,hy,cF.1 c7]⟩
     ·omega
   ·refine de (T.aU (Rg.a8 G G (aS ?_)));rw[bM hV,bM hV]at heq;exact aT G G ⟨congrArg Value.bool (decide_eq_true heq).symm,S.back⟩
theorem AQ {M:aP} {n:Nat} {a b:Qy} {v u:Value} (w0:World) (hM:Lt M w0) (hv:(RT.qy (n+1)).V M w0 a v) (hu:(RT.qy (n+1)).V M w0 b u) (ih:∀x∈a.kids,∀y∈b.kids,∀(M:aP) (w:World) (v u:Value),Lt M w->(RT.qy n).V M w x v->(RT.qy n).V M w y u->Spec Tryz.prog 162 #[v,u] w (λv' w'=>v'= .bool (decide (x=y))/\Step M w M w' aH)):
  Spec Tryz.prog 162 #[v,u] w0 (λv' w'=>v'= .bool (decide (a=b))/\Step M w0 M w' aH):=by
 refine bD (args:=[_,_]) (fn:=Tryz.f162) Tryz.func162 G (n:=31) Tryz.ntmps162 ?_;have S:Step M w0 M w0 aH:=bg;refine T.aU ?_;refine fO (A:=RT.qy (n+1)) (a:=a) G G hM hv (ec _) (λu2 LQ ff k4 _=>?_);replace hv:=hv.le k4.le;replace hu:=hu.le k4.le;replace hM:=k4.lt hM;have:=S.size;replace S:=S.ar k4;refine fO (A:=RT.qy (n+1)) (a:=b) G G hM hu (ec _) (λu3 wb1 l3 RJ _=>?_);replace hu:=hu.le RJ.le;replace ff:=ff.le (aO _) RJ.le;replace hM:=RJ.lt hM;have:=S.size;replace S:=S.ar RJ;refine Rg.a8 G G (T.aU ?_);refine aw (A:=RT.qy (n+1)) (B:=RT.int .i64) ax G G I3 q0 (Su n) G G (aO _) ff ck (λJy fI=>?_);refine bX al G G fI ck (λyX=>?_);refine aZ (v':= .int .i64 a.kind) G ?_;refine aw (A:=RT.qy (n+1)) (B:=RT.int .i64) ax G G I3 q0 (Su n) G G (aO _) l3 ck (λu12 IC=>?_);refine bX al G G IC ck (λaf0=>?_);refine aZ (v':= .int .i64 b.kind) G (je G G G (ab G G ?_));refine aB (g:=10) G (λlZ=>?_) (λlZ=>?_)
 ·refine ae G G ?_;refine aw (A:=RT.qy (n+1)) (B:=RT.fd) ax G G nL q0 (KM n) G G (aO _) ff ck (λu16 YS=>?_);refine ae G G ?_;refine cq (A:=RT.fd) bS G nL q0 G G G YS ck (λv17 LR=>?_);obtain rfl:=ll LR;refine ae G G ?_;refine aw (A:=RT.qy (n+1)) (B:=RT.fd) ax G G nL q0 (KM n) G G (aO _) l3 ck (λu18 XO=>?_);refine ae G G ?_;refine cq (A:=RT.fd) bS G nL q0 G G G XO ck (λv19 To=>?_);obtain rfl:=ll To;refine ae G G (Rg.ak7 (p:=a.term) (q:=b.term) bS am2 am2 q0 q0 G G aE aE G G G (aN G G G (ab G G ?_)));refine aB (g:=17) G (λvV=>?_) (λvV=>?_)
  ·refine ae G G ?_;refine aw (A:=RT.qy (n+1)) (B:=(RT.str.sl)) ax G G x8 q0 (RC n) G G (aO _) ff ck (λauu adK=>?_);refine ae G G ?_;refine bV aI G G G G G adK ck (λauv adL=>?_);refine ae G G ?_;refine aw (A:=RT.qy (n+1)) (B:=(RT.str.sl)) ax G G x8 q0 (RC n) G G (aO _) l3 ck (λauw adM=>?_);refine ae G G ?_;refine bV aI G G G G G adM ck (λauy adN=>?_);refine ae G G ?_;refine aV G G alb (Qx _ hM adL adN) (λauz auA hc=>?_);obtain⟨rfl,T5⟩:=hc;replace ff:=ff.le (aO _) T5.le;replace l3:=l3.le (aO _) T5.le;replace hM:=T5.lt hM;have:=S.size;replace S:=S.ar T5;refine aN G G G (ab G G ?_);refine aB (g:=24) G (λvW=>?_) (λvW=>?_)
   ·refine ae G G ?_;refine aw (A:=RT.qy (n+1)) (B:=((RT.qy n).sl (aO n))) ax G G AP Nat.one_pos (NI n) G G (aO _) ff ck (λalg QB=>?_);refine ae G G ?_;refine bV cr G G G G G QB ck (λauB adO=>?_);refine ae G G ?_;refine aw (A:=RT.qy (n+1)) (B:=((RT.qy n).sl (aO n))) ax G G AP Nat.one_pos (NI n) G G (aO _) l3 ck (λauC adP=>?_);refine ae G G ?_;refine bV cr G G G G G adP ck (λauD adQ=>?_);refine ae G G ?_;refine aV G G alc (LP _ hM adO adQ ih) (λalh ali hc=>?_);obtain⟨rfl,mj⟩:=hc;replace ff:=ff.le (aO _) mj.le;replace l3:=l3.le (aO _) mj.le;replace hM:=mj.lt hM;have:=S.size;replace S:=S.ar mj;refine aN G G G (Rg.a8 G G (aS ?_))
    first
    |exact a61
    |exact a86
    |exact a88
    |exact a89
   ·refine aj G G G G (aj G G G G (aj G G G G (aj G G G G (aj G G G G (au G G G (Rg.a8 G G (aS ?_)))))))
    first
    |exact a61
    |exact a86
    |exact a88
    |exact a89
  ·refine aj G G G G (aj G G G G (aj G G G G (aj G G G G (aj G G G G (au G G G (ab G G (aj G G G G (aj G G G G (aj G G G G (aj G G G G (aj G G G G ?_)))))))))));refine au G G G (Rg.a8 G G (aS ?_))
   first
   |exact a61
   |exact a86
   |exact a88
   |exact a89
 ·refine aj G G G G (aj G G G G (aj G G G G (aj G G G G (aj G G G G (au G G G (ab G G (aj G G G G (aj G G G G (aj G G G G (aj G G G G (aj G G G G ?_)))))))))));refine au G G G (ab G G (aj G G G G (aj G G G G (aj G G G G (aj G G G G (aj G G G G (au G G G (Rg.a8 G G (aS ?_)))))))))
  first
  |exact a61
  |exact a86
  |exact a88
  |exact a89
theorem AR:∀(n:Nat) {M:aP} {a b:Qy} {v u:Value} (w0:World) (hM:Lt M w0) (hv:(RT.qy n).V M w0 a v) (hu:(RT.qy n).V M w0 b u),Spec Tryz.prog 162 #[v,u] w0 (λv' w'=>v'= .bool (decide (a=b))/\Step M w0 M w' aH)
 |0,M,a,b,v,u,w0,hM,hv,hu=>AQ (n:=0) w0 hM (mW hv) (mW hu) λx hx=>by
  obtain⟨vs,⟨_,_,_,_,_,_,_,_,_,_,_,_,hk,_⟩,_⟩:=hv;have hk:a.kids=[]:=hk;rw[hk]at hx;cases hx
 |n+1,M,a,b,v,u,w0,hM,hv,hu=>AQ w0 hM hv hu λx _ y _ M w v u hM hv hu=>AR n w hM hv hu
end Go.K
namespace Go.K
open Go.Proofs
namespace TKQKind
theorem AP:TI Tryz.prog 26 (.slice none 0 0) 1 24:=by unfold TI;kernel_rfl
theorem gx:TI Tryz.prog 28 (.agg #[(.int .i64 0),(.string ⟨#[]⟩),(.string ⟨#[]⟩),(.slice none 0 0),(.slice none 0 0)]) 5 88:=by unfold TI;kernel_rfl
theorem D0:TI Tryz.prog 267 (.agg #[(.string ⟨#[]⟩),.nilFunc,.nilFunc,.nilFunc]) 4 40:=by unfold TI;kernel_rfl
theorem LS:placesOf Tryz.prog 28=[(0,1),(1,2),(3,1),(4,1)].map some:=by kernel_rfl
theorem QC:placesOf Tryz.prog 267=[(0,1),(1,1),(2,1),(3,1)].map some:=by kernel_rfl
theorem YT:Enters Tryz.prog 211:=enters Tryz.func211 rfl q0
end TKQKind
open TKQKind
set_option maxRecDepth 10000
def k8:Qy->Qy
 |.mk k t ws ks=>if k=1 then .mk k t [] []else if k=5 then .mk k (t.1,[]) ws []else .mk k ([],[]) [] ks
def KV (k:Int) (v:Value) (w:World):Prop:=
 (k=1/\v= .agg #[.string ⟨#[]⟩,.func (.func 203) #[] #[],.func (.func 204) #[] #[],.func (.func 205) #[] #[]])\/
 (k=5/\v= .agg #[.string ⟨#[]⟩,.func (.func 207) #[] #[],.func (.func 208) #[] #[],.func (.func 209) #[] #[]])\/
 ((k=2\/k=3\/k=4)/\∃b wd fv,v= .agg #[.string wd,.func (.func 202) #[] #[],.func (.func 269) #[] #[.pointer (some ⟨b,0,none⟩)],.func (.func fv) #[] #[]]/\w.heap[b]? =some (.cells #[.int .i64 (if k=4 then 1 else 8)] 3 (0,0)))\/
 ((k<1\/5<k)/\v= .agg #[.string ⟨#[]⟩,.nilFunc,.nilFunc,.nilFunc])
theorem KV.step {k:Int} {v:Value} {M M' N:aP} {w w':World} (h:KV k v w) (s:Step M w M' w' N) (hN:∀b,N b->∀cs,w.heap[b]? ≠some (.cells cs 3 (0,0))):KV k v w':=by
 rcases h with h|h|⟨h1,b,wd,fv,h2,h3⟩|h
 ·exact .inl h
 ·exact .inr (.inl h)
 ·exact .inr (.inr (.inl ⟨h1,b,wd,fv,h2,s.bY h3 λhn=>hN b hn _ h3⟩))
 ·exact .inr (.inr (.inr h))
theorem KV.cells {k:Int} {v:Value} {w:World} (h:KV k v w):∃a b c d,v= .agg #[a,b,c,d]/\a.oneCell'=true/\b.oneCell'=true/\c.oneCell'=true/\d.oneCell'=true:=by
 rcases h with⟨_,h⟩|⟨_,h⟩|⟨_,b,wd,fv,h,_⟩|⟨_,h⟩
 all_goals exact⟨_,_,_,_,h,rfl,rfl,rfl,rfl⟩
theorem xK {M:aP} {k:Int} (w0:World) (hM:Lt M w0):
  Spec Tryz.prog 211 #[.int .i64 k] w0 (λv w=>∃b,v= .func (.func 269) #[] #[.pointer (some ⟨b,0,none⟩)]/\w0.heap.size<=b/\w.heap[b]? =some (.cells #[.int .i64 k] 3 (0,0))/\Step M w0 M w aH):=by
 refine bD (args:=[_]) (fn:=Tryz.f211) Tryz.func211 G (n:=4) Tryz.ntmps211 (T.aU ?_);refine qu M G G (λb1 w1 p1 q1 g1 s1=>?_);change w1.heap[b1]? =some (.cells #[.int .i64 k] _ _)at g1;refine Rg.a8 G G (T.aU (jQ (xs:=[]) (ys:=[.tmp 1]) G G G (Rg.a8 G G (aS ?_))));exact aT G G ⟨b1,G,p1,g1,s1.back⟩
set_option maxHeartbeats 2000000 in
theorem ID {M:aP} (w0:World) (hM:Lt M w0):
  Spec Tryz.prog 161 #[] w0 (λv w=>∃mb es clock,v= .map (some mb)/\w.heap[mb]? =some (.map (es:List MapEntry).toArray clock)/\(∀(k:Int),∃o,Instr.findNow (.int .i64) (.int .i64 k) es 0=some o/\o.isSome=decide (1<=k/\k<=5)/\KV k ((o.map Prod.snd).getD (.agg #[.string ⟨#[]⟩,.nilFunc,.nilFunc,.nilFunc])) w)/\Step M w0 M w aH):=by
 refine bD (args:=[]) (fn:=Tryz.f161) Tryz.func161 G (n:=15) Tryz.ntmps161 (T.aU (Rg.a8 G G (T.aU (Rg.a8 G G (T.aU ?_)))));refine Rg.zB M tj G (λmb wk hmb _ hW S=>?_);have gk:=hW.at_;obtain⟨Mk,hMk⟩:∃Mk,Mk=ins M mb:=⟨_,rfl⟩;have mk:Mk mb:=by rw[hMk];exact .inl G
 rw[<-hMk]at S;replace hM:=S.lt hM;clear hW;refine cx (places:=[(0,1),(1,1),(2,1),(3,1)]) tn D0 QC rfl ⟨_,_,rfl,rfl,_,_,rfl,rfl,_,_,rfl,rfl,_,_,rfl,rfl,rfl⟩ (out:=[_,_,_,_]) ⟨0,[_],rfl,rfl,by simp[Value.cells],1,[_],rfl,rfl,by simp[Value.cells],2,[_],rfl,rfl,by simp[Value.cells],3,[_],rfl,rfl,by simp[Value.cells],rfl⟩ ?_;refine Rg.uP (es:=[]) (M:=Mk) tj al G G G gk G mk (λw1 g1 s1=>?_);replace S:=S.cE s1 (λq hq=>by have hq:q=mb:=hq;omega);replace hM:=s1.lt hM;replace mk:=(s1.mem _ (ah gk)).2 mk;refine cx (places:=[(0,1),(1,1),(2,1),(3,1)]) tn D0 QC rfl ⟨_,_,rfl,rfl,_,_,rfl,rfl,_,_,rfl,rfl,_,_,rfl,rfl,rfl⟩ (out:=[_,_,_,_]) ⟨0,[_],rfl,rfl,by simp[Value.cells],1,[_],rfl,rfl,by simp[Value.cells],2,[_],rfl,rfl,by simp[Value.cells],3,[_],rfl,rfl,by simp[Value.cells],rfl⟩ ?_;refine Rg.uP (es:=[_]) (M:=Mk) tj al G G G g1 G mk (λw5 g5 s5=>?_);replace S:=S.cE s5 (λq hq=>by have hq:q=mb:=hq;omega);replace hM:=s5.lt hM;replace mk:=(s5.mem _ (ah g1)).2 mk;refine ab G G ?_;refine aV G G YT (xK (M:=Mk) (k:=8) _ hM) (λrm2 wm2 hc=>?_);obtain⟨bm2,rfl,pm2,QD,sm2⟩:=hc;have nb2:bm2≠mb:=by have:=ah g5;omega
 replace S:=S.ar sm2;replace hM:=sm2.lt hM;replace mk:=(sm2.mem _ (ah g5)).2 mk;replace g5:=sm2.aF g5;refine cx (places:=[(0,1),(1,1),(2,1),(3,1)]) tn D0 QC rfl ⟨_,_,rfl,rfl,_,_,rfl,rfl,_,_,rfl,rfl,_,_,rfl,rfl,rfl⟩ (out:=[_,_,_,_]) ⟨0,[_],rfl,rfl,by simp[Value.cells],1,[_],rfl,rfl,by simp[Value.cells],2,[_],rfl,rfl,by simp[Value.cells],3,[_],rfl,rfl,by simp[Value.cells],rfl⟩ ?_;refine Rg.uP (es:=[_,_]) (M:=Mk) tj al G G G g5 G mk (λw2 g2 s2=>?_);replace S:=S.cE s2 (λq hq=>by have hq:q=mb:=hq;omega);replace hM:=s2.lt hM;replace mk:=(s2.mem _ (ah g5)).2 mk;replace QD:=s2.bY QD nb2;refine ab G G ?_;refine aV G G YT (xK (M:=Mk) (k:=8) _ hM) (λrm3 wm3 hc=>?_);obtain⟨bm3,rfl,pm3,YU,sm3⟩:=hc;have nb3:bm3≠mb:=by have:=ah g2;omega
 replace S:=S.ar sm3;replace hM:=sm3.lt hM;replace mk:=(sm3.mem _ (ah g2)).2 mk;replace g2:=sm3.aF g2;replace QD:=sm3.aF QD;refine cx (places:=[(0,1),(1,1),(2,1),(3,1)]) tn D0 QC rfl ⟨_,_,rfl,rfl,_,_,rfl,rfl,_,_,rfl,rfl,_,_,rfl,rfl,rfl⟩ (out:=[_,_,_,_]) ⟨0,[_],rfl,rfl,by simp[Value.cells],1,[_],rfl,rfl,by simp[Value.cells],2,[_],rfl,rfl,by simp[Value.cells],3,[_],rfl,rfl,by simp[Value.cells],rfl⟩ ?_;refine Rg.uP (es:=[_,_,_]) (M:=Mk) tj al G G G g2 G mk (λw3 g3 s3=>?_);replace S:=S.cE s3 (λq hq=>by have hq:q=mb:=hq;omega);replace hM:=s3.lt hM;replace mk:=(s3.mem _ (ah g2)).2 mk;replace QD:=s3.bY QD nb2;replace YU:=s3.bY YU nb3;refine ab G G ?_;refine aV G G YT (xK (M:=Mk) (k:=1) _ hM) (λrm4 wm4 hc=>?_);obtain⟨bm4,rfl,pm4,gm4,sm4⟩:=hc;have nb4:bm4≠mb:=by have:=ah g3;omega
 replace S:=S.ar sm4;replace hM:=sm4.lt hM;replace mk:=(sm4.mem _ (ah g3)).2 mk;replace g3:=sm4.aF g3;replace QD:=sm4.aF QD;replace YU:=sm4.aF YU;refine cx (places:=[(0,1),(1,1),(2,1),(3,1)]) tn D0 QC rfl ⟨_,_,rfl,rfl,_,_,rfl,rfl,_,_,rfl,rfl,_,_,rfl,rfl,rfl⟩ (out:=[_,_,_,_]) ⟨0,[_],rfl,rfl,by simp[Value.cells],1,[_],rfl,rfl,by simp[Value.cells],2,[_],rfl,rfl,by simp[Value.cells],3,[_],rfl,rfl,by simp[Value.cells],rfl⟩ ?_;refine Rg.uP (es:=[_,_,_,_]) (M:=Mk) tj al G G G g3 G mk (λw4 g4 s4=>?_);replace S:=S.cE s4 (λq hq=>by have hq:q=mb:=hq;omega);replace hM:=s4.lt hM;replace mk:=(s4.mem _ (ah g3)).2 mk;replace QD:=s4.bY QD nb2;replace YU:=s4.bY YU nb3;replace gm4:=s4.bY gm4 nb4;refine ab G G (Rg.a8 G G (aS ?_));refine aT G G ⟨mb,_,_,G,g4,λk=>?_,S.back⟩;have fB:∀a b:Int,¬a=b->(a==b)=false:=λa b h=>by simpa using h
 by_cases h1:k=1
 ·subst h1;exact⟨_,G,G,.inl ⟨G,G⟩⟩
 by_cases h5:k=5
 ·subst h5;exact⟨_,G,G,.inr (.inl ⟨G,G⟩)⟩
 by_cases h2:k=2
 ·subst h2;exact⟨_,G,G,.inr (.inr (.inl ⟨.inl G,bm2,_,_,G,QD⟩))⟩
 by_cases h3:k=3
 ·subst h3;exact⟨_,G,G,.inr (.inr (.inl ⟨.inr (.inl G),bm3,_,_,G,YU⟩))⟩
 by_cases h4:k=4
 ·subst h4;exact⟨_,G,G,.inr (.inr (.inl ⟨.inr (.inr G),bm4,_,_,G,gm4⟩))⟩
 refine⟨none,?_,?_,.inr (.inr (.inr ⟨by omega,rfl⟩))⟩
 ·simp[Instr.findNow,Instr.sameNow,fB _ _ h1,fB _ _ h2,fB _ _ h3,fB _ _ h4,fB _ _ h5]
 ·exact(decide_eq_false hV).symm
theorem LU {M:aP} {n:Nat} {q:Qy} {v:Value} (w0:World) (hM:Lt M w0) (hv:(RT.qy (n+1)).V M w0 q v) (hk:q.kind=2\/q.kind=3\/q.kind=4):
  Spec Tryz.prog 202 #[v] w0 (λv w=>(RT.qy (n+1)).V M w (k8 q) v/\Step M w0 M w aH):=by
 have jq:=hM;obtain⟨_,_,_,YV,uF,_,_⟩:=ox hv
 have QE:k8 q= .mk q.kind ([],[]) [] q.kids:=by
  obtain⟨k,t,ws,ks⟩:=q
  first
  |exact if_pos hk
  |exact(if_neg (by show¬k=1;have hk:k=5:=hk;omega)).trans (if_pos hk)
  |exact(if_neg am5).trans (if_neg an5)
 refine bD (args:=[_]) (fn:=Tryz.f202) Tryz.func202 G (n:=8) Tryz.ntmps202 ?_;have S:Step M w0 M w0 aH:=bg;refine T.aU ?_;refine fO (A:=RT.qy (n+1)) (a:=q) G G hM hv (ec _) (λu1 LQ my k4 _=>?_);replace hv:=hv.le k4.le;replace hM:=k4.lt hM;have:=S.size;replace S:=S.ar k4;refine eu M gx G (λgz tS HF HG cN iN=>?_);obtain⟨fi,gL⟩:∃M',M'=ins M gz:=⟨_,rfl⟩;rw[<-gL]at iN;have b9:fi gz:=by rw[gL];exact .inl G
 change tS.heap[gz]? =some (.cells #[.int .i64 0,.string ⟨#[]⟩,.string ⟨#[]⟩,.slice none 0 0,.slice none 0 0] _ _)at cN;replace my:=my.le (aO _) iN.le;replace hM:=iN.lt hM;have:=S.size;replace S:=S.ar iN;refine ad (T.aU ?_);refine aw (A:=RT.qy (n+1)) (B:=RT.int .i64) ax G G I3 q0 (Su n) G G (aO _) my ck (λJy fI=>?_);refine bX al G G fI ck (λyX=>?_);refine aZ (v':= .int .i64 q.kind) G ?_;refine aw (A:=RT.qy (n+1)) (B:=((RT.qy n).sl (aO n))) ax G G AP Nat.one_pos (NI n) G G (aO _) my ck (λu12 IC=>?_);refine bV cr G G G G G IC ck (λX1 Gq=>?_);refine cx (places:=[(0,1),(1,2),(3,1),(4,1)]) ax gx LS rfl ⟨_,_,rfl,rfl,_,_,rfl,rfl,rfl⟩ (out:=[_,.string ⟨#[]⟩,.string ⟨#[]⟩,.slice none 0 0,_]) ⟨0,[_],rfl,rfl,by simp[Value.cells],4,[_],rfl,ic Gq,by simp[Value.cells],rfl⟩ ?_;refine dm (M:=fi) (vs:=[.int .i64 q.kind,.string ⟨#[]⟩,.string ⟨#[]⟩,.slice none 0 0,X1]) gx G G a99 rfl rfl cN b9 (λw5 g5 s5=>?_);have:=ah cN;replace b9:=(s5.mem _ this).2 b9;replace my:=my.le (aO _) s5.le;replace Gq:=Gq.le s5.le;replace hM:=s5.lt hM;have:=S.size;replace S:=S.trans s5 (λk hk h=>by have h:_=_:=h;subst h;first|(exfalso;omega)|(show _<=_;omega)|exact⟨by first|omega|assumption,(S.mem _ hk).1 ((s5.mem _ (ah cN)).1 b9)⟩|exact .inl rfl|exact .inr rfl|exact .inr (.inl rfl)|exact .inr (.inr rfl)|exact .inr (.inr (.inl rfl))|exact rfl);have gq:=g5;clear cN;have cN:=gq;clear gq;refine ad (aS ?_);rw[QE];exact kO G G ax G gx G g5 ⟨x7 YV ⟨by decide,by decide⟩ ib (Gq.le (pz jq S)),S.back⟩
theorem LV {M:aP} {n:Nat} {q:Qy} {v:Value} (w0:World) (hM:Lt M w0) (hv:(RT.qy (n+1)).V M w0 q v) (hk:q.kind=1):
  Spec Tryz.prog 203 #[v] w0 (λv w=>(RT.qy (n+1)).V M w (k8 q) v/\Step M w0 M w aH):=by
 have jq:=hM;obtain⟨_,_,_,YV,uF,_,_⟩:=ox hv
 have QE:k8 q= .mk q.kind q.term [] []:=by
  obtain⟨k,t,ws,ks⟩:=q
  first
  |exact if_pos hk
  |exact(if_neg (by show¬k=1;have hk:k=5:=hk;omega)).trans (if_pos hk)
  |exact(if_neg am5).trans (if_neg an5)
 refine bD (args:=[_]) (fn:=Tryz.f203) Tryz.func203 G (n:=8) Tryz.ntmps203 ?_;have S:Step M w0 M w0 aH:=bg;refine T.aU ?_;refine fO (A:=RT.qy (n+1)) (a:=q) G G hM hv (ec _) (λu1 LQ my k4 _=>?_);replace hv:=hv.le k4.le;replace hM:=k4.lt hM;have:=S.size;replace S:=S.ar k4;refine eu M gx G (λgz tS HF HG cN iN=>?_);obtain⟨fi,gL⟩:∃M',M'=ins M gz:=⟨_,rfl⟩;rw[<-gL]at iN;have b9:fi gz:=by rw[gL];exact .inl G
 change tS.heap[gz]? =some (.cells #[.int .i64 0,.string ⟨#[]⟩,.string ⟨#[]⟩,.slice none 0 0,.slice none 0 0] _ _)at cN;replace my:=my.le (aO _) iN.le;replace hM:=iN.lt hM;have:=S.size;replace S:=S.ar iN;refine ad (T.aU ?_);refine aw (A:=RT.qy (n+1)) (B:=RT.int .i64) ax G G I3 q0 (Su n) G G (aO _) my ck (λJy fI=>?_);refine bX al G G fI ck (λyX=>?_);refine aZ (v':= .int .i64 q.kind) G ?_;refine aw (A:=RT.qy (n+1)) (B:=RT.fd) ax G G nL q0 (KM n) G G (aO _) my ck (λu12 IC=>?_);refine cq (A:=RT.fd) bS G nL q0 G G G IC ck (λX1 Gq=>?_);obtain rfl:=ll Gq;refine cx (places:=[(0,1),(1,2),(3,1),(4,1)]) ax gx LS rfl ⟨_,_,rfl,rfl,_,_,rfl,rfl,rfl⟩ (out:=[_,_,_,.slice none 0 0,.slice none 0 0]) ⟨0,[_],rfl,rfl,by simp[Value.cells],1,[_,_],rfl,rfl,by simp[Value.cells],rfl⟩ ?_;refine dm (M:=fi) (vs:=[.int .i64 q.kind,.string ⟨q.term.1.toArray⟩,.string ⟨q.term.2.toArray⟩,.slice none 0 0,.slice none 0 0]) gx G G a99 rfl rfl cN b9 (λw5 g5 s5=>?_);have:=ah cN;replace b9:=(s5.mem _ this).2 b9;replace my:=my.le (aO _) s5.le;replace hM:=s5.lt hM;have:=S.size;replace S:=S.trans s5 (λk hk h=>by have h:_=_:=h;subst h;first|(exfalso;omega)|(show _<=_;omega)|exact⟨by first|omega|assumption,(S.mem _ hk).1 ((s5.mem _ (ah cN)).1 b9)⟩|exact .inl rfl|exact .inr rfl|exact .inr (.inl rfl)|exact .inr (.inr rfl)|exact .inr (.inr (.inl rfl))|exact rfl);have gq:=g5;clear cN;have cN:=gq;clear gq;refine ad (aS ?_);rw[QE];exact kO G G ax G gx G g5 ⟨x7 YV uF ib ib,S.back⟩
theorem Gr {M:aP} {n:Nat} {q:Qy} {v:Value} (w0:World) (hM:Lt M w0) (hv:(RT.qy (n+1)).V M w0 q v) (hk:q.kind=5):
  Spec Tryz.prog 207 #[v] w0 (λv w=>(RT.qy (n+1)).V M w (k8 q) v/\Step M w0 M w aH):=by
 have jq:=hM;obtain⟨_,_,_,YV,uF,_,_⟩:=ox hv
 have QE:k8 q= .mk q.kind (q.term.1,[]) q.words []:=by
  obtain⟨k,t,ws,ks⟩:=q
  first
  |exact if_pos hk
  |exact(if_neg (by show¬k=1;have hk:k=5:=hk;omega)).trans (if_pos hk)
  |exact(if_neg am5).trans (if_neg an5)
 refine bD (args:=[_]) (fn:=Tryz.f207) Tryz.func207 G (n:=12) Tryz.ntmps207 ?_;have S:Step M w0 M w0 aH:=bg;refine T.aU ?_;refine fO (A:=RT.qy (n+1)) (a:=q) G G hM hv (ec _) (λu1 LQ my k4 _=>?_);replace hv:=hv.le k4.le;replace hM:=k4.lt hM;have:=S.size;replace S:=S.ar k4;refine eu M gx G (λgz tS HF HG cN iN=>?_);obtain⟨fi,gL⟩:∃M',M'=ins M gz:=⟨_,rfl⟩;rw[<-gL]at iN;have b9:fi gz:=by rw[gL];exact .inl G
 change tS.heap[gz]? =some (.cells #[.int .i64 0,.string ⟨#[]⟩,.string ⟨#[]⟩,.slice none 0 0,.slice none 0 0] _ _)at cN;replace my:=my.le (aO _) iN.le;replace hM:=iN.lt hM;have:=S.size;replace S:=S.ar iN;refine ad (T.aU ?_);refine aw (A:=RT.qy (n+1)) (B:=RT.int .i64) ax G G I3 q0 (Su n) G G (aO _) my ck (λJy fI=>?_);refine bX al G G fI ck (λyX=>?_);refine aZ (v':= .int .i64 q.kind) G ?_;refine aw (A:=RT.qy (n+1)) (B:=RT.fd) ax G G nL q0 (KM n) G G (aO _) my ck (λu12 IC=>?_);refine aw (A:=RT.fd) (B:=RT.str) bS G G I9 q0 Mw G G q0 IC ck (λu13 YW=>?_);refine bV aE G G G G G YW ck (λv14 alm=>?_);obtain rfl:=eF alm;refine cx (places:=[(0,1),(1,1)]) bS nL WC rfl ⟨_,_,rfl,rfl,rfl⟩ (out:=[_,.string ⟨#[]⟩]) ⟨0,[_],rfl,rfl,by simp[Value.cells],rfl⟩ ?_;refine aw (A:=RT.qy (n+1)) (B:=(RT.str.sl)) ax G G x8 q0 (RC n) G G (aO _) my ck (λu16 YS=>?_);refine bV aI G G G G G YS ck (λv17 LR=>?_);refine cx (places:=[(0,1),(1,2),(3,1),(4,1)]) ax gx LS rfl ⟨_,_,rfl,rfl,_,_,rfl,rfl,_,_,rfl,rfl,rfl⟩ (out:=[_,_,_,_,.slice none 0 0]) ⟨0,[_],rfl,rfl,by simp[Value.cells],1,[_,_],rfl,rfl,by simp[Value.cells],3,[_],rfl,ic LR,by simp[Value.cells],rfl⟩ ?_;refine dm (M:=fi) (vs:=[.int .i64 q.kind,.string ⟨q.term.1.toArray⟩,.string ⟨#[]⟩,v17,.slice none 0 0]) gx G G a99 rfl rfl cN b9 (λw5 g5 s5=>?_);have:=ah cN;replace b9:=(s5.mem _ this).2 b9;replace my:=my.le (aO _) s5.le;replace LR:=LR.le s5.le;replace hM:=s5.lt hM;have:=S.size
 replace S:=S.trans s5 (λk hk h=>by have h:_=_:=h;subst h;first|(exfalso;omega)|(show _<=_;omega)|exact⟨by first|omega|assumption,(S.mem _ hk).1 ((s5.mem _ (ah cN)).1 b9)⟩|exact .inl rfl|exact .inr rfl|exact .inr (.inl rfl)|exact .inr (.inr rfl)|exact .inr (.inr (.inl rfl))|exact rfl);have gq:=g5;clear cN;have cN:=gq;clear gq;refine ad (aS ?_);rw[QE];exact kO G G ax G gx G g5 ⟨x7 YV ⟨uF.1,bA _⟩ (LR.le (pz jq S)) ib,S.back⟩
end Go.K
namespace Go.K
open Go.Proofs
namespace TKWMay
theorem aln:Enters Tryz.prog 299:=enters Tryz.func299 rfl q0
end TKWMay
open TKWMay
set_option maxRecDepth 10000
theorem mD {l x:List UInt8} (h1:(words l).length=1) (hx:(words l)[0]? =some x):dh l=(decide (x=l)&&decide (l.length<=30)):=by
 obtain⟨y,hy⟩:∃y,words l=[y]:=List.length_eq_one_iff.1 h1;rw[hy]at hx;have hx:y=x:=by simpa using hx
 unfold dh;rw[hy,hx,kq];simp
theorem xL {l:List UInt8} (h1: ¬(words l).length=1):dh l=false:=by
 unfold dh;rw[decide_eq_false_iff_not];rintro⟨h,_⟩;rw[h]at h1;exact h1 G
def lz (p:List Int×List (List UInt8)):Nat:=(ik p.1).length+(p.2.map List.length).sum
theorem QF {p:List Int×List (List UInt8)} {c:Int} (h:pO c=true):lz (eP p c)=lz p+(Lib.encodeRune (rV (eo c))).length:=by
 rw[zU h];unfold lz;simp only[];rw[lh,bT];omega
theorem CQ {p:List Int×List (List UInt8)} {c:Int} (h:pO c=false):lz (eP p c)=lz p:=by
 rw[lj h];unfold lz;by_cases h0:0<p.1.length
 ·rw[if_pos h0];simp[ik];omega
 ·have:p.1=[]:=cG.1 hV;rw[if_neg h0];simp[ik,this]
theorem QG {l:List UInt8} (h1:128<=(dec l).1) (h2:(dec l).1≠65533):2<=(dec l).2:=by
 unfold dec Dl at*
 split at h1
 ·rename_i h;rw[if_pos h]at h2;simp only at h1;omega
 ·rename_i h;rw[if_neg h]at h2 ⊢
  split
  ·rename_i h3;rw[if_pos h3]at h2
   split
   ·simp only;omega
   ·rename_i h4;rw[if_neg h4]at h2;exact absurd G h2
  ·rename_i h3;rw[if_neg h3]at h2
   split
   ·rename_i h5;rw[if_pos h5]at h2
    split
    ·simp only;omega
    ·rename_i h4;rw[if_neg h4]at h2;exact absurd G h2
   ·rename_i h5;rw[if_neg h5]at h2
    split
    ·rename_i h6;rw[if_pos h6]at h2
     split
     ·simp only;omega
     ·rename_i h4;rw[if_neg h4]at h2;exact absurd G h2
    ·rename_i h6;rw[if_neg h6]at h2;exact absurd G h2
theorem QH {c:Int} (h:pO c=true):(0<=c/\c<128/\0<=eo c/\eo c<128)\/(128<=c/\c<2048/\128<=eo c/\eo c<2048):=by
 have h1:fT c=true\/mX c=true:=by simpa[pO]using h
 simp only[fT,mX,decide_eq_true_eq]at h1;unfold eo
 split<;>omega
theorem CR {c:Int} (h:0<=c/\c<2048):rV c=c:=oU hV
theorem LW {l:List UInt8} (hl:l≠[]) (h:pO ((dec l).1:Int)=true):(Lib.encodeRune (rV (eo ((dec l).1:Int)))).length<=(dec l).2:=by
 have hw:=(jV hl).1;rcases QH h with⟨h1,h2,h3,h4⟩|⟨h1,h2,h3,h4⟩
 ·rw[CR hV,abh ⟨h3,h4⟩];exact hw
 ·rw[CR hV,abi ⟨h3,h4⟩];exact QG hV hV
theorem IE:∀(n:Nat) (l:List UInt8),l.length=n->∀p,lz ((dM l).foldl eP p)<=lz p+l.length/\(lz ((dM l).foldl eP p)=lz p+l.length->∀c∈dM l,pO c=true):=by
 intro n
 induction n using Nat.strongRecOn with
 |_ n ih=>
  intro l hn p;by_cases hl:l=[]
  ·subst hl;rw[mB];exact⟨aK _,λ_ c hc=>by cases hc⟩
  ·have hw:=jV hl;have hd:(l.drop (dec l).2).length=l.length-(dec l).2:=dn ..;obtain⟨h1,h2⟩:=ih (l.drop (dec l).2).length hV _ rfl (eP p ((dec l).1:Int));rw[lg hl,qP]
   cases lY:pO ((dec l).1:Int)with
   |true=>
    have h3:=QF (p:=p) lY;have h4:=LW hl lY;refine ⟨by omega,λe c hc=> ?_⟩;rcases dg.1 hc with rfl|hc
    ·exact lY
    ·exact h2 hV c hc
   |false=>
    have h3:=CQ (p:=p) lY;exact⟨by omega,λe=>by omega⟩
theorem Ka:∀(sg:List Int) (p:List Int×List (List UInt8)),(∀c∈sg,pO c=true)->sg.foldl eP p=(p.1++sg.map eo,p.2)
 |[],p,_=>by simp
 |c::sg,p,h=>by
  rw[qP,Ka sg _ (λx hx=>h x (cn _ hx)),zU (h c (bE ..))];simp
theorem Gt {l:List UInt8} (h:∀c∈dM l,pO c=true) (hn:dM l≠[]):words l=[ik ((dM l).map eo)]:=by
 unfold words;rw[jo,Ka _ _ h];show(eP _ 32).2=_;rw[lj N5,if_pos (by simp;exact eA.2 hn)];simp
theorem AS (l:List UInt8):dh l=true↔dM l≠[]/\l.length<=30/\ik ((dM l).map eo)=l/\∀c∈dM l,pO c=true:=by
 unfold dh;rw[decide_eq_true_iff];constructor
 ·rintro⟨h1,h2⟩
  have iR:∀c∈dM l,pO c=true:=by
   refine (IE l.length l G ([],[])).2 ?_
   have h3:lz ((dM l++[32]).foldl eP ([],[]))=lz ((dM l).foldl eP ([],[])):=by
    rw[jo];exact CQ N5
   have h4:((dM l++[32]).foldl eP ([],[])).2=[l]:=h1
   have h5:((dM l++[32]).foldl eP ([],[])).1=[]:=by
    rw[jo];show(eP _ 32).1=[];rw[lj N5];split<;>rfl
   rw[<-h3];unfold lz;rw[h4,h5];simp[ik]
  have fB:dM l≠[]:=λe=>by
   have:words l=[]:=by unfold words;rw[e];rfl
   rw[this]at h1;cases h1
  refine⟨fB,h2,?_,iR⟩;have:=Gt iR fB;rw[this]at h1;simpa using h1
 ·rintro⟨h1,h2,h3,h4⟩;exact⟨by rw[Gt h4 h1,h3],h2⟩
theorem iD {l:List UInt8} (h: ¬(dM l≠[]/\l.length<=30/\ik ((dM l).map eo)=l/\∀c∈dM l,pO c=true)):dh l=false:=fH.2 λe=>h ((AS l).1 e)
theorem LX {M:aP} {l:List UInt8} (w0:World) (hM:Lt M w0) (hl:l.length<=3900000):
  Spec Tryz.prog 299 #[.string ⟨l.toArray⟩] w0 (λv w=>v= .bool (dh l)/\Step M w0 M w aH):=by
 refine bD (args:=[_]) (fn:=Tryz.f299) Tryz.func299 G (n:=21) Tryz.ntmps299 ?_;have S:Step M w0 M w0 aH:=bg;refine T.aU (Rg.a8 G G (T.aU (ab G G ?_)));refine aV G G WI (yc _ hM hl) (λr1 w1 hc=>?_);obtain⟨hr,s1⟩:=hc;replace hM:=s1.lt hM;have:=S.size;replace S:=S.ar s1;refine Rg.a8 G G (T.aU (ab G G ?_));have UP:=oW l;refine bR aI G hr G (je G G G (ab G G ?_));refine aB (g:=9) G (λT6=>?_) (λT6=>?_)
 ·refine ae G G (ab G G (ae G G ?_));obtain⟨x,hx⟩:∃x,(words l)[0]? =some x:=⟨_,aq hV⟩;refine cD aI I9 G G G hr ck hV (λu25 x_ ke alo=>?_);obtain rfl:=aG (hx.symm.trans ke);refine ae G G ?_;refine bV aE G G G G G alo ck (λv26 YX=>?_);obtain rfl:=eF YX;refine ae G G (ab G G (ae G G (Rg.Ej G G G (aN G G G (ab G G ?_)))));refine aB (g:=16) G (λAT=>?_) (λAT=>?_)
  ·refine ae G G (ab G G (ae G G (te aE G G (aZ (v':= .int .i64 (l.length:Int)) a81 (ae G G (gr G G G (aN G G G (Rg.a8 G G (aS ?_)))))))))
   first
   |exact aT rfl rfl ⟨congrArg Value.bool ag4,S⟩
   |exact aT G G ⟨congrArg Value.bool (by rw[mD hV hx,decide_eq_false AT,eT]),S⟩
   |exact aT G G ⟨congrArg Value.bool (by rw[xL hV]),S⟩
  ·refine aj G G G G (aj G G G G (aj G G G G (au G G G (Rg.a8 G G (aS ?_)))))
   first
   |exact aT rfl rfl ⟨congrArg Value.bool ag4,S⟩
   |exact aT G G ⟨congrArg Value.bool (by rw[mD hV hx,decide_eq_false AT,eT]),S⟩
   |exact aT G G ⟨congrArg Value.bool (by rw[xL hV]),S⟩
 ·refine aj G G G G (aj G G G G (aj G G G G (aj G G G G (aj G G G G (au G G G (ab G G (aj G G G G (aj G G G G (aj G G G G (au G G G (aJ G G ?_)))))))))));refine ad (aS ?_)
  first
  |exact aT rfl rfl ⟨congrArg Value.bool ag4,S⟩
  |exact aT G G ⟨congrArg Value.bool (by rw[mD hV hx,decide_eq_false AT,eT]),S⟩
  |exact aT G G ⟨congrArg Value.bool (by rw[xL hV]),S⟩
theorem Vz {M:aP} {l:List UInt8} (w0:World) (hM:Lt M w0) (hl:l.length<=3900000):
  Spec Tryz.prog 266 #[.string ⟨l.toArray⟩] w0 (λv w=>v= .bool (!dh l)/\Step M w0 M w aH):=by
 refine bD (args:=[_]) (fn:=Tryz.f266) Tryz.func266 G (n:=6) Tryz.ntmps266 (T.aU (Rg.a8 G G (T.aU (ab G G ?_))));refine aV G G aln (LX _ hM hl) (λr1 w1 hc=>?_);obtain⟨rfl,s1⟩:=hc;refine jd G G (Rg.a8 G G (aS ?_));exact aT G G ⟨G,s1⟩
end Go.K
namespace Go.K
open Go.Proofs
namespace TKQOwn
theorem AP:TI Tryz.prog 26 (.slice none 0 0) 1 24:=by unfold TI;kernel_rfl
theorem alp:Enters Tryz.prog 202:=enters Tryz.func202 rfl q0
theorem alq:Enters Tryz.prog 203:=enters Tryz.func203 rfl q0
theorem alr:Enters Tryz.prog 204:=enters Tryz.func204 rfl q0
theorem als:Enters Tryz.prog 207:=enters Tryz.func207 rfl q0
theorem alu:Enters Tryz.prog 208:=enters Tryz.func208 rfl q0
theorem adS:Enters Tryz.prog 266:=enters Tryz.func266 rfl q0
theorem alv:Enters Tryz.prog 268:=enters Tryz.func268 rfl q0
theorem alw:Enters Tryz.prog 269:=enters Tryz.func269 rfl q0
theorem alx:Enters Tryz.prog 300:=enters Tryz.func300 rfl q0
end TKQOwn
open TKQOwn
set_option maxRecDepth 10000
theorem IF {M:aP} {l:List (List UInt8)} {v:Value} (w0:World) (hM:Lt M w0) (hv:(RT.str.sl).V M w0 l v) (hb:∀x∈l,x.length<=3900000):
  Spec Tryz.prog 300 #[v,.func (.func 266) #[] #[]] w0 (λv' w=>∃k:Int,v'= .int .i64 k/\ -1<=k/\(0<=k↔l.all dh=false)/\Step M w0 M w aH):=by
 have hlen:=dJ hv;refine bD (args:=[_,_]) (fn:=Tryz.f300) Tryz.func300 G (n:=19) Tryz.ntmps300 ?_;have S:Step M w0 M w0 aH:=bg;refine T.aU (Rg.a8 G G (aQ (T.aU (ab G G (bR aI G hv G (ab G G (ad (bp ?_))))))));refine dz (σ:=Nat) (λi=>[(0,v),(1,.func (.func 266) #[] #[]),(7,.int .i64 (l.length:Int)),(8,.int .i64 (i:Int))]) (λi w=>i<=l.length/\Lt M w/\Step M w0 M w aH/\(RT.str.sl).V M w l v/\∀(j:Nat) x,j<i->l[j]? =some x->dh x=true) (λi=>l.length-i) 0 VS ?_ ?_
 ·exact⟨bA _,hM,S,hv,λj x h=>absurd h (fp _)⟩
 ·clear hM S hv;rintro i w ⟨hi,hM,S,hv,iR⟩;refine T.aU (cH G G G (ad (aQ ?_)));refine bH G (λc2=>?_) (λc2=>?_)
  ·refine aM (aQ (bp (T.aU (ab G G (Rg.a8 G G (T.aU (ab G G (ab G G ?_))))))));refine ab G G ?_;obtain⟨x,hx⟩:∃x,l[i]? =some x:=⟨_,aq hV⟩;have On:=hb x (ao hx);refine cD aI I9 G G G hv ck hV (λu43 x_ ke aly=>?_);rw[av]at ke;obtain rfl:=aG (hx.symm.trans ke);refine bV aE G G G G G aly ck (λv44 alz=>?_);obtain rfl:=eF alz;refine wJ (first:=[]) (captured:=[]) (xs:=[.tmp 15]) G G G adS (Vz (l:=x) _ hM On) (λr4 w4 hc=>?_);obtain⟨rfl,s4⟩:=hc;refine aZ (v':= .bool (decide (dh x=false))) (by cases dh x<;>rfl) ?_;replace hv:=hv.le s4.le;replace hM:=s4.lt hM;have:=S.size;replace S:=S.ar s4;refine ad ?_;refine bH G (λc4=>?_) (λc4=>?_)
   ·refine T.aU (ab G G (Rg.a8 G G (aS ?_)));exact aT rfl rfl ⟨_,rfl,by omega,⟨λ_=>List.all_eq_false.2 ⟨x,ao hx,by rw[c4];decide⟩,λ_=>by omega⟩,S⟩
   ·refine aM (ay (aX G G G hV (ab G G (ad ?_))));refine⟨G,i+1,VS,?_,?_⟩
    ·refine ⟨by omega,hM,S,hv,λj y hj hy=> ?_⟩;rcases cT j i with h|h
     ·exact iR j y h hy
     ·obtain rfl:j=i:=by omega
      rw[hx]at hy;cases hy;simpa using c4
    ·omega
  ·refine de (T.aU (Rg.a8 G G (aS ?_)))
   exact aT G G ⟨-1,G,by omega,⟨λh=>by omega,λh=>by
    obtain⟨x,hx,hn⟩:=List.all_eq_false.1 h;obtain⟨j,hj⟩:=bQ.1 hx;exact absurd (iR j x (by have:=(ak.1 hj).1;omega) hj) hn⟩,S⟩
theorem Gu {M:aP} {l:List (List UInt8)} {v:Value} (w0:World) (hM:Lt M w0) (hv:(RT.str.sl).V M w0 l v) (hb:∀x∈l,x.length<=3900000):
  Spec Tryz.prog 268 #[v,.func (.func 266) #[] #[]] w0 (λv' w=>v'= .bool (decide (l.all dh=false))/\Step M w0 M w aH):=by
 refine bD (args:=[_,_]) (fn:=Tryz.f268) Tryz.func268 G (n:=9) Tryz.ntmps268 (T.aU (Rg.a8 G G (T.aU (ab G G (ab G G ?_)))));refine aV G G alx (IF _ hM hv hb) (λr1 w1 hc=>?_);obtain⟨k,rfl,fg,fC,s1⟩:=hc;refine cu G G G (Rg.a8 G G (aS ?_));exact aT G G ⟨congrArg Value.bool (decide_eq_decide.2 fC),s1⟩
theorem IG {M:aP} {n:Nat} {q:Qy} {v:Value} (w0:World) (hM:Lt M w0) (hv:(RT.qy (n+1)).V M w0 q v) (hb:q.term.2.length<=3900000):
  Spec Tryz.prog 204 #[v] w0 (λv w=>v= .int .i64 (if eK q.term.1=false then 4 else if dh q.term.2=true then 0 else 9)/\Step M w0 M w aH):=by
 have sk:=hv;refine bD (args:=[_]) (fn:=Tryz.f204) Tryz.func204 G (n:=14) Tryz.ntmps204 ?_;have S:Step M w0 M w0 aH:=bg;refine T.aU ?_;refine fO (A:=RT.qy (n+1)) (a:=q) G G hM hv (ec _) (λu1 LQ my k4 _=>?_);replace hv:=hv.le k4.le;replace hM:=k4.lt hM;have:=S.size;replace S:=S.ar k4;refine Rg.a8 G G (aQ (bp (T.aU ?_)));refine aw (A:=RT.qy (n+1)) (B:=RT.fd) ax G G nL q0 (KM n) G G (aO _) my ck (λJy fI=>?_);refine aw (A:=RT.fd) (B:=RT.str) bS G G I9 q0 Mw G G q0 fI ck (λu11 jc=>?_);refine bV aE G G G G G jc ck (λv12 QI=>?_);obtain rfl:=eF QI;obtain⟨_,_,_,_,uF,_,_⟩:=ox sk;refine aV G G WG (xq q.term.1 uF.1 _) (λr13 XU hc=>?_);obtain⟨rfl,YY⟩:=hc;have vE:=YY M;replace my:=my.le (aO _) vE.le;replace hM:=vE.lt hM;have:=S.size;replace S:=S.ar vE;refine jd rfl rfl (aZ (v':= .bool (decide (eK q.term.1=false))) (by cases eK q.term.1<;>rfl) (Rg.a8 rfl rfl ?_));refine bH G (λc1=>?_) (λc1=>?_)
 ·refine T.aU (Rg.a8 G G (aS ?_));exact aT rfl rfl ⟨by rw[if_pos c1],S⟩
 ·refine T.aU ?_;refine aw (A:=RT.qy (n+1)) (B:=RT.fd) ax G G nL q0 (KM n) G G (aO _) my ck (λu30 YZ=>?_);refine aw (A:=RT.fd) (B:=RT.str) bS G G I9 q0 UI G G q0 YZ ck (λu31 Y0=>?_);refine bV aE G G G G G Y0 ck (λv32 Y1=>?_);obtain rfl:=eF Y1;refine aV G G adS (Vz _ hM hb) (λr33 w33 hc=>?_);obtain⟨rfl,xM⟩:=hc;refine aZ (v':= .bool (decide (dh q.term.2=false))) (by cases dh q.term.2<;>rfl) ?_;replace my:=my.le (aO _) xM.le;replace hM:=xM.lt hM;have:=S.size;replace S:=S.ar xM;refine Rg.a8 G G ?_;refine bH G (λc3=>?_) (λc3=>?_)
  ·refine T.aU (Rg.a8 G G (aS ?_));exact aT rfl rfl ⟨by rw[if_neg c1,if_neg (by rw[c3];decide)],S⟩
  ·refine aM (T.aU (Rg.a8 G G (aS ?_)));exact aT rfl rfl ⟨by rw[if_neg c1,if_pos (by simpa using c3)],S⟩
theorem D1 {M:aP} {n:Nat} {q:Qy} {v:Value} (w0:World) (hM:Lt M w0) (hv:(RT.qy (n+1)).V M w0 q v) (hb:∀x∈q.words,x.length<=3900000):
  Spec Tryz.prog 208 #[v] w0 (λv w=>v= .int .i64 (if eK q.term.1=false then 4 else if q.words=[]then 9 else if q.words.all dh=false then 9 else if 6<q.words.length then 7 else 0)/\Step M w0 M w aH):=by
 have sk:=hv;refine bD (args:=[_]) (fn:=Tryz.f208) Tryz.func208 G (n:=24) Tryz.ntmps208 ?_;have S:Step M w0 M w0 aH:=bg;refine T.aU ?_;refine fO (A:=RT.qy (n+1)) (a:=q) G G hM hv (ec _) (λu1 LQ my k4 _=>?_);replace hv:=hv.le k4.le;replace hM:=k4.lt hM;have:=S.size;replace S:=S.ar k4;refine Rg.a8 G G (aQ (bp (T.aU ?_)));refine aw (A:=RT.qy (n+1)) (B:=RT.fd) ax G G nL q0 (KM n) G G (aO _) my ck (λJy fI=>?_);refine aw (A:=RT.fd) (B:=RT.str) bS G G I9 q0 Mw G G q0 fI ck (λu11 jc=>?_);refine bV aE G G G G G jc ck (λv12 QI=>?_);obtain rfl:=eF QI;obtain⟨_,_,_,_,uF,_,_⟩:=ox sk;refine aV G G WG (xq q.term.1 uF.1 _) (λr13 XU hc=>?_);obtain⟨rfl,YY⟩:=hc;have vE:=YY M;replace my:=my.le (aO _) vE.le;replace hM:=vE.lt hM;have:=S.size;replace S:=S.ar vE;refine jd rfl rfl (aZ (v':= .bool (decide (eK q.term.1=false))) (by cases eK q.term.1<;>rfl) (Rg.a8 rfl rfl ?_));refine bH G (λc1=>?_) (λc1=>?_)
 ·refine T.aU (Rg.a8 G G (aS ?_));exact aT rfl rfl ⟨by rw[if_pos c1],S⟩
 ·refine T.aU ?_;refine aw (A:=RT.qy (n+1)) (B:=(RT.str.sl)) ax G G x8 q0 (RC n) G G (aO _) my ck (λu30 YZ=>?_);refine bV aI G G G G G YZ ck (λv31 T7=>?_);have UP:=dJ T7;refine bR aI G T7 G (je G G G (ab G G ?_));refine aB (g:=14) G (λK6=>?_) (λK6=>?_)
  ·refine aj G G G G (aj G G G G (aj G G G G (aN G G G (Rg.a8 G G (iz G (T.aU (Rg.a8 G G (aS ?_))))))))
   first
   |exact aT rfl rfl ⟨by rw[if_neg c1,if_pos (cG.1 hV)],S⟩
   |exact aT rfl rfl ⟨by rw[if_neg c1,if_neg (λe=>K6 (by rw[e];rfl)),if_pos c3],S⟩
  ·refine ae G G ?_;refine aw (A:=RT.qy (n+1)) (B:=(RT.str.sl)) ax G G x8 q0 (RC n) G G (aO _) my ck (λu35 alB=>?_);refine ae G G ?_;refine bV aI G G G G G alB ck (λv36 alC=>?_);refine ae G G ?_;refine aV G G alv (Gu _ hM alC hb) (λr37 w37 hc=>?_);obtain⟨rfl,s37⟩:=hc;replace my:=my.le (aO _) s37.le;replace hM:=s37.lt hM;have:=S.size;replace S:=S.ar s37;refine au G G G (Rg.a8 G G ?_);refine bH G (λc3=>?_) (λc3=>?_)
   ·refine T.aU (Rg.a8 G G (aS ?_))
    first
    |exact aT rfl rfl ⟨by rw[if_neg c1,if_pos (cG.1 hV)],S⟩
    |exact aT rfl rfl ⟨by rw[if_neg c1,if_neg (λe=>K6 (by rw[e];rfl)),if_pos c3],S⟩
   ·have fB: ¬q.words=[]:=λe=>K6 (by rw[e];rfl)
    refine T.aU ?_;refine aw (A:=RT.qy (n+1)) (B:=(RT.str.sl)) ax G G x8 q0 (RC n) G G (aO _) my ck (λu50 Y2=>?_);refine bV aI G G G G G Y2 ck (λv51 alE=>?_);refine bR aI G alE G (fR G G G (Rg.a8 G G ?_));refine bH G (λc5=>?_) (λc5=>?_)
    ·refine T.aU (Rg.a8 G G (aS ?_));exact aT rfl rfl ⟨by rw[if_neg c1,if_neg fB,if_neg c3,if_pos hV],S⟩
    ·refine aM (T.aU (Rg.a8 G G (aS ?_)));exact aT rfl rfl ⟨by rw[if_neg c1,if_neg fB,if_neg c3,if_neg hV],S⟩
theorem IH {M:aP} {n:Nat} {q:Qy} {v:Value} (w0:World) (hM:Lt M w0) (hv:(RT.qy (n+1)).V M w0 q v) {b:Nat} {most:Int} (hb:w0.heap[b]? =some (.cells #[.int .i64 most] 3 (0,0))):
  Spec Tryz.prog 269 #[v,.pointer (some ⟨b,0,none⟩)] w0 (λv w=>v= .int .i64 (if q.kids.length=0 then 9 else if most<q.kids.length then 7 else 0)/\Step M w0 M w aH):=by
 refine bD (args:=[_,_]) (fn:=Tryz.f269) Tryz.func269 G (n:=15) Tryz.ntmps269 ?_;have S:Step M w0 M w0 aH:=bg;refine T.aU ?_;refine fO (A:=RT.qy (n+1)) (a:=q) G G hM hv (ec _) (λu2 LQ ff k4 _=>?_);replace hv:=hv.le k4.le;replace hM:=k4.lt hM;have:=S.size;replace S:=S.ar k4;refine Rg.a8 G G (aQ (T.aU ?_));refine aw (A:=RT.qy (n+1)) (B:=((RT.qy n).sl (aO n))) ax G G AP Nat.one_pos (NI n) G G (aO _) ff ck (λJy fI=>?_);refine bV cr G G G G G fI ck (λv11 adT=>?_);have G1:=dJ adT;refine bR (A:=RT.qy n) (hn:=aO _) cr G adT G (Rg.a8 G G (bp (T.aU (ab G G (je G G G (Rg.a8 G G ?_))))));refine bH G (λc2=>?_) (λc2=>?_)
 ·refine T.aU (Rg.a8 G G (aS ?_));exact aT rfl rfl ⟨by rw[if_pos hV],S⟩
 ·refine T.aU (ab G G (aR al G G G (S.aF hb) G (aZ (v':= .int .i64 most) G (fR G G G (Rg.a8 G G ?_)))));refine bH G (λc4=>?_) (λc4=>?_)
  ·refine T.aU (Rg.a8 G G (aS ?_));exact aT rfl rfl ⟨by rw[if_neg hV,if_pos hV],S⟩
  ·refine aM (T.aU (Rg.a8 G G (aS ?_)));exact aT rfl rfl ⟨by rw[if_neg hV,if_neg hV],S⟩
structure SzO (t:Fd) (ws:List (List UInt8)):Prop where
 t2:t.2.length<=3900000
 w:∀x∈ws,x.length<=3900000
mutual
def G3:Qy->Prop
 |.mk _ t ws ks=>SzO t ws/\LY ks
def LY:List Qy->Prop
 |[]=>True
 |q::ks=>G3 q/\LY ks
end
theorem QK {ks:List Qy}:LY ks↔∀q∈ks,G3 q:=by
 induction ks with
 |nil=>simp[LY]
 |cons q ks ih=>rw[LY,ih,List.forall_mem_cons]
theorem szQ {q:Qy}:G3 q↔SzO q.term q.words/\∀x∈q.kids,G3 x:=by
 obtain⟨k,t,ws,ks⟩:=q;rw[G3,QK];rfl
theorem Kb {k:Int} {t:Fd} {ws:List (List UInt8)} {ks:List Qy} (hk:1<=k/\k<=5) (h: ¬Qy.mk k t ws ks=k8 (.mk k t ws ks)):km k t ws ks.length=9:=by
 unfold km;rw[if_neg hV];rw[k8]at h;by_cases h1:k=1
 ·rw[if_pos h1]at h;rw[if_neg hV,if_pos];by_cases hk:ks=[]
  ·exact .inr (.inl ⟨h1,λhw=>h (by rw[hk,hw])⟩)
  ·exact .inl (eA.2 hk)
 rw[if_neg h1]at h;by_cases h5:k=5
 ·rw[if_pos h5]at h;rw[if_neg hV,if_pos];by_cases hk:ks=[]
  ·exact .inr (.inr ⟨h5,λhw=>h (by rw[hk,<-hw])⟩)
  ·exact .inl (eA.2 hk)
 rw[if_neg h5]at h;rw[if_pos hV,if_pos];by_cases ht:t=([],[])
 ·exact .inr (.inl λhw=>h (by rw[ht,hw]))
 ·exact .inl ht
theorem Kc {k:Int} {t:Fd} {ws:List (List UInt8)} {n:Nat} (hk: ¬(1<=k/\k<=5)):km k t ws n=9:=by
 unfold km;rw[if_pos hV]
theorem QL {k:Int} {t:Fd} {ws:List (List UInt8)} {ks:List Qy} (hk:k=1) (h:Qy.mk k t ws ks=k8 (.mk k t ws ks)):km k t ws ks.length=if eK t.1=false then 4 else if dh t.2=true then 0 else 9:=by
 rw[k8]at h;rw[if_pos hk]at h;injection h with _ _ h1 h2
 subst h1 h2;unfold km;rw[if_neg hV,if_neg hV,if_neg a06,if_pos hk]
theorem II {k:Int} {t:Fd} {ws:List (List UInt8)} {ks:List Qy} (hk:k=5) (h:Qy.mk k t ws ks=k8 (.mk k t ws ks)):km k t ws ks.length=if eK t.1=false then 4 else if ws=[]then 9 else if ws.all dh=false then 9 else if 6<ws.length then 7 else 0:=by
 rw[k8]at h;rw[if_neg hV,if_pos hk]at h;injection h with _ h0 _ h2
 subst h2;have h0:t.2=[]:=congrArg Prod.snd h0;unfold km;rw[if_neg hV,if_neg hV,if_neg (by simp[h0];omega),if_neg (show¬k=1 by omega)]
theorem QM {k:Int} {t:Fd} {ws:List (List UInt8)} {ks:List Qy} (hk:k=2\/k=3\/k=4) (h:Qy.mk k t ws ks=k8 (.mk k t ws ks)):km k t ws ks.length=if ks.length=0 then 9 else if(if k=4 then 1 else 8:Int)<ks.length then 7 else 0:=by
 rw[k8]at h;rw[if_neg hV,if_neg hV]at h;injection h with _ h0 h1 _
 subst h0 h1;unfold km;rw[if_neg hV,if_pos hV];by_cases h2:ks.length=0
 ·rw[if_pos (.inr (.inr h2)),if_pos h2]
 ·rw[if_neg (by simp;exact λe=>h2 (by rw[e];rfl)),if_neg h2];by_cases h4:k=4
  ·rw[if_pos h4];by_cases h5:(1:Int)<ks.length
   ·rw[if_pos h5,if_pos (.inr ⟨h4,by omega⟩)]
   ·rw[if_neg h5,if_neg hV]
  ·rw[if_neg h4];by_cases h5:(8:Int)<ks.length
   ·rw[if_pos h5,if_pos (.inl hV)]
   ·rw[if_neg h5,if_neg hV]
theorem KV.use {q:Qy} {a b c d:Value} {w0:World} (hK:KV q.kind (.agg #[a,b,c,d]) w0) (hk:1<=q.kind/\q.kind<=5) (hs:SzO q.term q.words):∃bf mf cap,b= .func (.func bf) #[] #[]/\c= .func (.func mf) #[] (cap:List Value).toArray/\Enters Tryz.prog bf/\Enters Tryz.prog mf/\
  (∀{M:aP} {n:Nat} {w:World} {v:Value},Lt M w->(RT.qy (n+1)).V M w q v->Spec Tryz.prog bf #[v] w (λr w'=>(RT.qy (n+1)).V M w' (k8 q) r/\Step M w M w' aH))/\
  (∀{M:aP} {n:Nat} {w:World} {v:Value},Lt M w->(RT.qy (n+1)).V M w q v->KV q.kind (.agg #[a,b,c,d]) w->q=k8 q->Spec Tryz.prog mf (v::cap).toArray w (λr w'=>r= .int .i64 (km q.kind q.term q.words q.kids.length)/\Step M w M w' aH)):=by
 obtain⟨k,t,ws,ks⟩:=q;have iA:t.2.length<=3900000:=hs.t2;have hsw:∀x∈ws,x.length<=3900000:=hs.w;have hk:1<=k/\k<=5:=hk;rcases hK with⟨h1,h2⟩|⟨h1,h2⟩|⟨h1,b',wd,fv,h2,h3⟩|⟨h1,h2⟩
 ·simp only[Value.agg.injEq,Array.mk.injEq,y4]at h2;obtain⟨rfl,rfl,rfl,rfl,_⟩:=h2;exact⟨_,_,[],G,G,alq,alr,λhM hv=>LV _ hM hv h1,λhM hv _ e=>(IG _ hM hv iA).mono λr w' h=>⟨h.1.trans (congrArg _ (QL h1 e).symm),h.2⟩⟩
 ·simp only[Value.agg.injEq,Array.mk.injEq,y4]at h2;obtain⟨rfl,rfl,rfl,rfl,_⟩:=h2;exact⟨_,_,[],G,G,als,alu,λhM hv=>Gr _ hM hv h1,λhM hv _ e=>(D1 _ hM hv hsw).mono λr w' h=>⟨h.1.trans (congrArg _ (II h1 e).symm),h.2⟩⟩
 ·simp only[Value.agg.injEq,Array.mk.injEq,y4]at h2;obtain⟨rfl,rfl,rfl,rfl,_⟩:=h2;refine ⟨_,_,[.pointer (some ⟨b',0,none⟩)],G,G,alp,alw,λhM hv=>LU _ hM hv h1,λhM hv RQ e=> ?_⟩;have h1:k=2\/k=3\/k=4:=h1;rcases RQ with⟨h4,_⟩|⟨h4,_⟩|⟨_,b2,wd2,fv2,h4,h5⟩|⟨h4,_⟩
  ·have h4:k=1:=h4;omega
  ·have h4:k=5:=h4;omega
  ·simp only[Value.agg.injEq,Array.mk.injEq,y4,Value.func.injEq,Value.pointer.injEq,Option.some.injEq,Addr.mk.injEq]at h4;obtain⟨_,_,⟨_,_,⟨rfl,_⟩,_⟩,_⟩:=h4;exact(IH _ hM hv h5).mono λr w' h=>⟨h.1.trans (congrArg _ (QM h1 e).symm),h.2⟩
  ·have h4:k<1\/5<k:=h4;omega
 ·have h1:k<1\/5<k:=h1;omega
end Go.K
namespace Go.K
open Go.Proofs
set_option maxRecDepth 10000
mutual
theorem QN:∀q,BD 1048576 q->G3 q
 |.mk k t ws ks,h=>szQ.2 ⟨⟨by have:=h.1.2.1;show t.2.length<=3900000;omega,λx hx=>by have:=h.1.2.2 x hx;omega⟩,QO ks h.2⟩
theorem QO:∀ks,Ce 1048576 ks->∀x∈ks,G3 x
 |[],_=>λx hx=>by cases hx
 |q::ks,h=>λx hx=>by
  rcases dg.1 hx with e|e
  ·rw[e];exact QN q h.1
  ·exact QO ks h.2 x e
end
end Go.K
namespace Go.K
open Go.Proofs
namespace TKSearch
theorem ac0:Enters Tryz.prog 159:=enters Tryz.func159 rfl q0
theorem ac1:Enters Tryz.prog 160:=enters Tryz.func160 rfl q0
theorem ac2:Enters Tryz.prog 201:=enters Tryz.func201 rfl q0
end TKSearch
open TKSearch
set_option maxRecDepth 10000
theorem IK {w0:World} {x:Int}:
  Spec Tryz.prog 160 #[.int .i64 x] w0 (λv' w'=>v'= .bool (decide False)/\w0=w'):=by
 refine bD (args:=[_]) (fn:=Tryz.f160) Tryz.func160 G (n:=6) Tryz.ntmps160 (T.aU (Rg.a8 G G (T.aU (ab G G (ab G G (fG G G G (Rg.a8 G G ?_)))))));refine aS ?_;exact aT rfl rfl ⟨by simp,rfl⟩
theorem D3 {w0:World} {x:Int}:
  Spec Tryz.prog 201 #[.int .i64 x] w0 (λv' w'=>v'= .bool (decide False)/\w0=w'):=by
 refine bD (args:=[_]) (fn:=Tryz.f201) Tryz.func201 G (n:=6) Tryz.ntmps201 (T.aU (Rg.a8 G G (T.aU (ab G G (ab G G (fG G G G (Rg.a8 G G ?_)))))));refine aS ?_;exact aT rfl rfl ⟨by simp,rfl⟩
theorem LZ {w0:World} {x y:Int}:
  Spec Tryz.prog 159 #[.int .i64 x,.int .i64 y] w0 (λv' w'=>v'= .bool (decide (x<y))/\w0=w'):=by
 refine bD (args:=[_,_]) (fn:=Tryz.f159) Tryz.func159 G (n:=17) Tryz.ntmps159 (T.aU (Rg.a8 G G (T.aU (ab G G ?_))));refine aV G G ac2 (D3) (λr wc h=>?_);obtain⟨rfl,rfl⟩:=h;refine ab G G (Rg.G5 (g:=7) G ((λh=>h)) (aj G G G G (aj G G G G (aj G G G G (au G G G (ab G G (ae G G (ab G G (ae G G (ab G G (ae G G ?_)))))))))));refine cH G G G (au G G G (Rg.a8 G G (aS ?_)));exact ao2
theorem Gv {M:aP} {w0:World} {v:Value} {l:List Int} {x:Int} (hv:((RT.int .i64).sl).V M w0 l v) (hr:l.Pairwise (· < ·)):
  Spec Tryz.prog 103 #[v,.int .i64 x] w0 (λv' w'=>∃i:Int,v'= .tuple #[.int .i64 i,.bool (l.contains x)]/\w0=w'):=by
 have hlen:=dJ hv;refine bD (args:=[_,_]) (fn:=Tryz.f103) Tryz.func103 G (n:=54) Tryz.ntmps103 (T.aU (aJ G G (Rg.a8 G G (T.aU (ab G G (bR aC G hv G (Rg.a8 G G ?_)))))));refine T.aU (ab G G (aJ G G (Rg.a8 G G (aQ (bp ?_)))));refine dz (σ:=Nat×Nat) (λs=>[(0,v),(1,.int .i64 x),(6,.int .i64 l.length),(7,.int .i64 s.1),(8,.int .i64 s.2)]) (λs w=>w0=w/\s.1<=s.2/\s.2<=l.length/\(∀t y,t<s.1->l[t]? =some y->y<x)/\(∀t y,s.2<=t->l[t]? =some y->x<=y)) (λs=>s.2-s.1) (0,l.length) a74 ?_ ?_
 ·exact⟨G,bA _,aK _,λt y h=>absurd h (fp _),λt y h hy=>by have:=(ak.1 hy).1;simp only at h;omega⟩
 ·rintro⟨i,j⟩ w1 ⟨rfl,jS,hj,h1,h2⟩;dsimp only at jS hj h1 h2 ⊢;refine aQ (T.aU (ab G G (ab G G (cH G G G (ad ?_)))));refine bH G (λc3=>?_) (λc3=>?_)
  ·refine aM (bp (T.aU (ab G G (ab G G (aX G G G hV (xS al Tryz.underlying262 rfl rfl (aZ (v':= .int .u64 ((i+j:Nat):Int)) (congrArg _ (by rw[IntWalk.u64_in _ hV];omega)) (Rg.shr rfl rfl rfl hV (aZ (v':= .int .u64 (((i+j)/2:Nat):Int)) (congrArg _ (ak9 _)) (Rg.wO Tryz.underlying262 al rfl rfl hV ?_))))))))));refine Rg.a8 G G (T.aU (ab G G (ab G G ?_)));obtain⟨y,hy⟩:∃y,l[(i+j)/2]? =some y:=⟨_,aq hV⟩;refine cD aC I3 G G G (hv) ck a14 (λacJ alF adU vH=>?_);obtain rfl:y=alF:=cY (aG (adU.symm.trans (by rw[av];exact hy)));refine bX (M:=M) al G G VR (by repeat (first|exact bB _ _|refine aW (bC VR) ?_)) (λPA=>?_);refine aZ (v':= .int .i64 (y)) G ?_;replace PA: -9223372036854775808<=(y:Int)/\y<=9223372036854775807:=PA;refine ab G G ?_;refine aV G G ac0 (LZ) (λr wc h=>?_);obtain⟨rfl,rfl⟩:=h;refine ad ?_;refine bH G (λc5=>?_) (λc5=>?_)
   ·refine ay (ab G G (aX G G G hV (Rg.a8 G G ?_)));refine⟨G,((i+j)/2+1,j),a74,?_,?_⟩
    ·refine⟨rfl,by simp only;omega,hj,λt z ht hz=>?_,h2⟩;rcases cT t ((i+j)/2)with h|h
     ·have:=DW hr hz hy h;omega
     ·rw[show t=(i+j)/2 from by simp only at ht;omega,hy]at hz;cases hz;exact c5
    ·simp only;omega
   ·refine ay (ab G G (Rg.a8 G G ?_));refine⟨G,(i,(i+j)/2),a74,?_,?_⟩
    ·refine ⟨rfl,by simp only;omega,by simp only;omega,h1,λt z ht hz=> ?_⟩;rcases cT ((i+j)/2) t with h|h
     ·have:=DW hr hy hz h;omega
     ·rw[show t=(i+j)/2 from by simp only at ht;omega,hy]at hz;cases hz;omega
    ·simp only;omega
  ·refine de (T.aU (ab G G (ab G G (ab G G (cH G G G (ab G G ?_))))));refine aB (g:=35) G (λalG=>?_) (λalG=>?_)
   ·refine ae G G (ab G G (ae G G (ab G G (ae G G ?_))));obtain⟨y,hy⟩:∃y,l[i]? =some y:=⟨_,aq hV⟩;refine cD aC I3 G G G (hv) ck a14 (λauM alH adV apv=>?_);obtain rfl:y=alH:=cY (aG (adV.symm.trans (by rw[av];exact hy)));refine ae G G ?_;refine bX (M:=M) al G G VR (by repeat (first|exact bB _ _|refine aW (bC VR) ?_)) (λVA=>?_);refine aZ (v':= .int .i64 (y)) G ?_;replace VA: -9223372036854775808<=(y:Int)/\y<=9223372036854775807:=VA;refine ae G G (ab G G (ae G G (je G G G (ae G G (ab G G ?_)))));refine aB (g:=42) G (λAU=>?_) (λAU=>?_)
    ·refine aj G G G G (aj G G G G (aj G G G G (aj G G G G (aj G G G G (aj G G G G (bN G G G (bN G G G (aj G G G G (ae G G (aN G G G (aN G G G ?_)))))))))));refine aJ G G (Rg.a8 G G (aS ?_));have QP:=Iy hr h1 (λt y ht hy=>h2 t y hV hy)
     first
     |exact al7
     |exact ah7
     |exact fk rfl rfl rfl ⟨_,by rw[QP,dO hV,decide_eq_false (by simp)],G⟩
    ·refine ae G G (ab G G (ae G G (ab G G (ae G G ?_))));refine cD aC I3 G G G (hv) ck a14 (λapw adW Y3 alI=>?_);obtain rfl:y=adW:=cY (aG (Y3.symm.trans (by rw[av];exact hy)));refine ae G G ?_;refine bX (M:=M) al G G VR (by repeat (first|exact bB _ _|refine aW (bC VR) ?_)) (λQQ=>?_);refine aZ (v':= .int .i64 (y)) G ?_;replace QQ: -9223372036854775808<=(y:Int)/\y<=9223372036854775807:=QQ;refine ae G G ?_;refine aV G G ac1 (IK) (λr wc h=>?_);obtain⟨rfl,rfl⟩:=h;refine ae G G (ab G G (Rg.G5 (g:=48) G ((λh=>h)) (aj G G G G (aj G G G G (ae G G (au G G G (ae G G (au G G G (aN G G G (aJ G G (aJ G G ?_)))))))))));refine ad (aS ?_);have QP:=Iy hr h1 (λt y ht hy=>h2 t y hV hy)
     first
     |exact al7
     |exact ah7
     |exact fk rfl rfl rfl ⟨_,by rw[QP,dO hV,decide_eq_false (by simp)],G⟩
   ·refine aj G G G G (aj G G G G (aj G G G G (aj G G G G (aj G G G G (aj G G G G (aj G G G G (bN G G G (bN G G G (bN G G G (bN G G G (bN G G G ?_)))))))))));refine bN G G G (bN G G G (bN G G G (bN G G G (aj G G G G (au G G G (aJ G G (Rg.a8 G G (aS ?_))))))));have QP:=Iy hr h1 (λt y ht hy=>h2 t y hV hy)
    first
    |exact al7
    |exact ah7
    |exact fk rfl rfl rfl ⟨_,by rw[QP,dO hV,decide_eq_false (by simp)],G⟩
end Go.K
namespace Go.K
open Go.Proofs
namespace TKSides2
theorem alJ:Enters Tryz.prog 103:=enters Tryz.func103 rfl q0
end TKSides2
open TKSides2
set_option maxRecDepth 10000
theorem CS {M:aP} {w0:World} {v:Value} {ls:List (List Int)} (hv:(((RT.int .i64).sl).sl).V M w0 ls v) (hg:∀l∈ls,Vv l) (Rz:ls.length<=1000):
  Spec Tryz.prog 54 #[v] w0 (λv' w'=>v'= .int .i64 (J5 ls)/\w0=w'):=by
 have hlen:=dJ hv;refine bD (args:=[_]) (fn:=Tryz.f54) Tryz.func54 G (n:=49) Tryz.ntmps54 (T.aU (Rg.a8 G G (aQ (T.aU (ab G G (bR gJ G hv G (je G G G (ad ?_))))))));refine bH G (λc1=>?_) (λc1=>?_)
 ·refine T.aU (Rg.a8 G G (aS ?_));have:ls=[]:=cG.1 hV;subst this;exact ao2
 ·obtain⟨l0,tl,rfl⟩:∃l0 tl,ls=l0::tl:=by
   cases ls with
   |nil=>simp at c1
   |cons a b=>exact⟨a,b,rfl⟩
  have uF:tl.length<=1000:=by simp only[cR]at Rz;omega
  have hlc:(l0::tl).length=tl.length+1:=rfl;refine aM (T.aU (Rg.a8 G G (aQ (T.aU (ab G G ?_)))));refine cD gJ qB G G G (hv) ck a14 (λabB alK adX UW=>?_);obtain rfl:l0=alK:=cY (aG (adX.symm.trans rfl));refine bV aC G G G G G UW ck (λv16 T8=>?_);replace T8:((RT.int .i64).sl).V M w0 l0 v16:=T8;have Tt:=hg l0 (bE ..);have auN:=Tt.2.2;refine bR aC G T8 G (ab G G (ad (bp ?_)));refine dz (σ:=Nat) (λs=>[(0,v),(3,.int .i64 (BV tl l0 s)),(16,v16),(17,.int .i64 l0.length),(18,.int .i64 s)]) (λs w=>w0=w/\s<=l0.length) (λs=>l0.length-s) 0 a74 ?_ ?_
  ·exact⟨G,bA _⟩
  ·rintro i w1 ⟨rfl,hi⟩;refine T.aU (cH G G G (ad (aQ ?_)));refine bH G (λc5=>?_) (λc5=>?_)
   ·refine aM (aQ (bp (T.aU ?_)));obtain⟨at_,hx⟩:∃x,l0[i]? =some x:=⟨_,aq hV⟩;refine cD aC I3 G G G (T8) ck a14 (λXo alM adY E9=>?_);obtain rfl:at_=alM:=cY (aG (adY.symm.trans (by rw[av];exact hx)));have MC:=Tt.2.1 at_ (ao hx);refine bX al G G E9 ck (λ_=>?_);refine aZ (v':= .int .i64 at_) G (Rg.a8 G G (T.aU (Rg.a8 G G (aQ (T.aU (ab G G ?_))))));refine Rg.pB (A:=(RT.int .i64).sl) (hn:=by decide) gJ qB rfl rfl rfl hv (by simp only[cR];omega) (λu23 T9=>?_);replace T9:(((RT.int .i64).sl).sl).V M w0 tl u23:=T9;refine bR gJ G T9 G (ab G G (ad (bp ?_)));refine dz (σ:=Nat) (λs=>[(0,v),(3,.int .i64 (BV tl l0 i)),(5,.int .i64 at_),(6,.bool (Qm tl at_ s)),(16,v16),(17,.int .i64 l0.length),(18,.int .i64 i),(23,u23),(24,.int .i64 tl.length),(25,.int .i64 s)]) (λs w=>w0=w/\s<=tl.length) (λs=>tl.length-s) 0 (.cons G (.cons G (.cons G a92))) ?_ ?_
    ·exact⟨G,bA _⟩
    ·rintro k w2 ⟨rfl,hk⟩;refine T.aU (cH G G G (ad (aQ ?_)));refine bH G (λc9=>?_) (λc9=>?_)
     ·refine aM (aQ (bp (T.aU (ab G G ?_))));obtain⟨lk,nK⟩:∃x,tl[k]? =some x:=⟨_,aq hV⟩;refine cD gJ qB G G G (T9) ck a14 (λapy adZ Y4 Y5=>?_);obtain rfl:lk=adZ:=cY (aG (Y4.symm.trans (by rw[av];exact nK)));refine bV aC G G G G G Y5 ck (λv8 Eh=>?_);replace Eh:((RT.int .i64).sl).V M w0 lk v8:=Eh;have hgk:=hg lk (cn _ (ao nK));have yd:tl.getD k []=lk:=by rw[cL,nK];rfl
      refine aJ G G (Rg.a8 G G (T.aU (ab G G (ab G G (aX G G G hV (ab G G (aX G G G hV ?_)))))));refine aV G G alJ (Gv (x:=at_+1+k) Eh hgk.1) (λr wc h=>?_);obtain⟨i5,rfl,rfl⟩:=h;refine ab G G (cP G G G (cP G G G (aJ G G (Rg.a8 G G (ay (ab G G (ab G G (aZ (v':= .bool (decide (Qm tl at_ k=true))) (by simp) ?_))))))));refine aB (g:=40) G (λGw=>?_) (λGw=>?_)
      ·refine ae G G (ab G G (aN G G G (Rg.a8 G G (ay (aX G G G hV (ab G G (ad ?_)))))));refine⟨rfl,k+1,a97,?_,?_⟩
       ·exact⟨G,by omega⟩
       ·show _-(k+1)<_-k;omega
      ·refine aj G G G G (au G G G (Rg.a8 G G (ay (aX G G G hV (ab G G (ad ?_))))));refine⟨rfl,k+1,a97,?_,?_⟩
       ·exact⟨G,by omega⟩
       ·show _-(k+1)<_-k;omega
     ·refine de (T.aU ?_);obtain rfl:k=tl.length:=by omega
      refine ab G G (aZ (v':= .bool (decide (Qm tl at_ tl.length=true))) (by simp) (ad ?_));refine bH G (λK5=>?_) (λK5=>?_)
      ·refine ay (ab G G ?_);have kW:=T2 tl l0 i;refine aX G G G hV (Rg.a8 G G (ay (aX G G G hV (ab G G (ad ?_)))));refine⟨rfl,i+1,al6,?_,?_⟩
       ·exact⟨G,by omega⟩
       ·show _-(i+1)<_-i;omega
      ·refine aM (ay (aX G G G hV (ab G G (ad ?_))));refine⟨rfl,i+1,al6,?_,?_⟩
       ·exact⟨G,by omega⟩
       ·show _-(i+1)<_-i;omega
   ·refine de (T.aU (ab G G (Rg.a8 G G (aS ?_))));obtain rfl:i=l0.length:=by omega
    exact ao2
end Go.K
namespace Go.K
open Go.Proofs
namespace TKMTerm
theorem fE:TI Tryz.prog 45 (.agg #[(.int .i64 0),(.int .i64 0)]) 2 16:=by unfold TI;kernel_rfl
theorem qU:placesOf Tryz.prog 45=[(0,1),(1,1)].map some:=by kernel_rfl
theorem TY:Enters Tryz.prog 163:=enters Tryz.func163 rfl q0
theorem It:Enters Tryz.prog 164:=enters Tryz.func164 rfl q0
theorem alN:Enters Tryz.prog 165:=enters Tryz.func165 rfl q0
end TKMTerm
open TKMTerm
set_option maxRecDepth 10000
theorem IL {M:aP} {L:List En} {t:Fd} {v0:Value} (w0:World) (hM:Lt M w0) (hs:dp RT.se M w0 v0 (Ih (j6 L))) (fh:CC (-1) L=true) (hn:L.length<=100000) (h1:t.1.length<=140737488355328) (h2:t.2.length<=140737488355328):
  Spec Tryz.prog 105 #[v0,kv t] w0 (λv w=>∃M',Lt M' w/\Step M w0 M' w aH/\Own RT.fo 45 M' w w0.heap.size v (iy (Gn t) 0 L)):=by
 have jq:=hM;have hF:=lN fh;have L0:=P9 hF hV (dv t);have yN:(pk L (dv t)).length<=1099511627776:=L0.ln;have hPF:((pk L (dv t)).map λp=>(p.1,((p.2.length:Nat):Int)))=iy (Gn t) 0 L:=Qu t L 0 hF;refine bD (args:=[_,_]) (fn:=Tryz.f105) Tryz.func105 G (n:=25) Tryz.ntmps105 ?_;have S:Step M w0 M w0 aH:=bg;refine T.aU ?_;refine fO (A:=RT.fd) G G hM (DB h1 h2) G (λu3 w1 l3 sb _=>?_);replace hs:=hs.le q0 sb.le;replace hM:=sb.lt hM;have:=S.size;replace S:=S.ar sb;refine Rg.a8 G G (T.aU (Rg.a8 G G (T.aU (ab G G ?_))));refine cq (A:=RT.fd) bS G nL q0 G G G l3 ck (λv21 Y6=>?_);obtain rfl:=ll Y6;refine aV rfl rfl TY (vN (ls:=(keysOf L).map (pk L)) (t:=t) _ hM hs (pW L) rfl (by rw[cg];rfl) h1 h2) (λr22 w22 hc=>?_);obtain⟨bc,rfl,hz,yT,hC⟩:=hc;have hz0:=S.size;generalize ins M bc=Mc at yT hC;replace hC:Cu 323 (pk L (dv t)) (-1) Mc w22 bc:=by have h:=hC;rw[show TU (Ih (j6 L)).2.2.1 ((keysOf L).map (pk L)) (dv t)=(pk L (dv t))from P2 _]at h;exact h
 replace hs:=hs.le q0 yT.le;replace l3:=l3.le q0 yT.le;replace hM:=yT.lt hM;have:=S.size;replace S:=S.ar yT;refine Rg.a8 G G (aQ (T.aU (ab G G ?_)));obtain⟨_,_,_,_,_,CT,_⟩:=id hC;refine aV G G It (pf hC hM L0.may L0.ps L0.by_ L0.ln) (λr31 w31 hc=>?_);obtain⟨rfl,s31,hC⟩:=hc;have KX:nt (pk L (dv t)) (-1)=((0:Nat):Int):=by unfold nt;rw[if_pos hV];omega
 rw[KX]at hC ⊢;replace S:=S.cE s31 (λb (hb:b=bc)=>by omega);replace hM:=s31.lt hM;refine Rg.a8 G G (bp ?_);refine dz (σ:=Nat×Value) (λq=>[(5,q.2),(6,.pointer (some ⟨bc,0,none⟩)),(7,.int .i64 (eR (pk L (dv t)) (q.1:Int)))]) (λq w=>q.1<=(pk L (dv t)).length/\∃M2,Lt M2 w/\Step M w0 M2 w aH/\Cu 323 (pk L (dv t)) (q.1:Int) M2 w bc/\Own RT.fo 45 M2 w w0.heap.size q.2 (((pk L (dv t)).map λp=>(p.1,((p.2.length:Nat):Int))).take q.1)) (λq=>(pk L (dv t)).length-q.1) (0,.slice none 0 0) a11 ?_ ?_
 ·exact⟨bA _,_,hM,S,hC,ep _ _ _ _ _⟩
 ·clear hM S hC;rintro⟨i,vo⟩ w ⟨hi,M2,hM,S,hC,kF⟩;dsimp only at hi hC kF ⊢;refine aQ (T.aU (ab G G (cH G G G (ad ?_))));refine bH G (λc4=>?_) (λc4=>?_)
  ·have qz:i<(pk L (dv t)).length:=Nat.lt_of_not_le λh=>by rw[rS hV]at c4;exact absurd c4 q0
   refine aM (aQ (bp (ay ?_)));obtain⟨⟨pd,ps⟩,hgp⟩:∃x,(pk L (dv t))[i]? =some x:=⟨_,aq hV⟩;have hdg:=jU hgp;have hdr:=mc L0.may hgp;have hpg:gy (pk L (dv t)) (i:Int)=ps:=by unfold gy;rw[if_neg hV,av,hgp]
   have alO:=L0.ps _ (ao hgp);dsimp only at alO;refine ab G G (ab G G (ab G G ?_));refine aV G G alN (F3 hC L0.may) (λr63 w63 hc=>?_);obtain⟨rfl,rfl⟩:=hc;rw[hpg,hdg];obtain⟨_,_,_,_,_,auT,_⟩:=id hC;refine cx (places:=[(0,1),(1,1)]) bm fE qU rfl ⟨_,_,rfl,rfl,_,_,rfl,rfl,rfl⟩ (out:=[_,_]) ⟨0,[_],rfl,rfl,by simp[Value.cells],1,[_],rfl,rfl,by simp[Value.cells],rfl⟩ ?_;refine dT (A:=RT.fo) (hn:=by decide) (M:=M2) an fE q0 G G hM (kX hV hV) (.inl G) (λauU abN QR tT=>?_);replace kF:=kF.br tT;replace hC:=hC.step tT (λh=>h);replace hM:=tT.lt hM;have:=S.size;replace S:=S.ar tT;refine cI (M:=M2) (base:=w0.heap.size) an fE rfl rfl rfl rfl kF QR ck (by rw[bI,cg,eS];omega) (by rw[bI,cg,eS];omega) (S.size) (λalP auV auW ad1 Ua=>?_);replace QR:=QR.le Ua.le;replace hC:=hC.step Ua (λh=>by obtain⟨_,_,_,_,_,CT,_⟩:=id hC;exact kF.fN CT q0 h);replace hM:=Ua.lt hM;have:=S.size;replace S:=S.cf Ua kF (aK _);replace kF:=ad1;refine Rg.a8 G G (ay (ab G G ?_));obtain⟨_,_,_,_,_,CT,_⟩:=id hC;refine aV G G It (pf hC hM L0.may L0.ps L0.by_ L0.ln) (λr51 w51 hc=>?_);obtain⟨rfl,RL,hC⟩:=hc;have KX:nt (pk L (dv t)) (i:Int)=((i+1:Nat):Int):=by unfold nt;rw[if_pos hV];omega
   rw[KX]at hC ⊢;replace kF:=kF.step RL (λc hc (h:c=bc)=>kF.fN CT q0 (h▸hc));replace S:=S.cE RL (λb (hb:b=bc)=>by omega);replace hM:=RL.lt hM;refine Rg.a8 G G ?_;refine⟨G,(i+1,alP),a11,?_,?_⟩
   ·exact⟨by omega,_,hM,S,hC,by rw[cj,eX,hgp];exact kF⟩
   ·dsimp only;omega
  ·have qz:(pk L (dv t)).length<=i:=Nat.le_of_not_lt λh=>by have:=(EC (l:=(pk L (dv t))) L0.may (i:=(i:Int))).2 ⟨by omega,by omega⟩;omega
   refine de (T.aU (ab G G (Rg.a8 G G (aS (aT G G ⟨_,hM,S,?_⟩)))));rw[bM (by rw[cg];omega),hPF]at kF;exact kF
end Go.K
namespace Go.K
open Go.Proofs
namespace TKMPhr
theorem fE:TI Tryz.prog 45 (.agg #[(.int .i64 0),(.int .i64 0)]) 2 16:=by unfold TI;kernel_rfl
theorem Gx:TI Tryz.prog 272 (.pointer none) 1 8:=by unfold TI;kernel_rfl
theorem qU:placesOf Tryz.prog 45=[(0,1),(1,1)].map some:=by kernel_rfl
theorem E54:Enters Tryz.prog 54:=enters Tryz.func54 rfl q0
theorem TY:Enters Tryz.prog 163:=enters Tryz.func163 rfl q0
theorem It:Enters Tryz.prog 164:=enters Tryz.func164 rfl q0
theorem TV:Enters Tryz.prog 166:=enters Tryz.func166 rfl q0
theorem alR:Enters Tryz.prog 167:=enters Tryz.func167 rfl q0
end TKMPhr
open TKMPhr
set_option maxRecDepth 10000
def sJ (k:List UInt8) (xs:List (List UInt8)) (e:En):Option Int:=yG (xG (ej e.1.2 k) xs)
theorem Ub {ws xs:List (List UInt8)} (h:0<xG ws xs) {x:List UInt8} (hx:x∈xs):0<(jO ws x).length:=by
 unfold xG at h
 split at h
 ·omega
 ·unfold Qr at h;obtain⟨i,hi⟩:=List.length_pos_iff_exists_mem.1 h;have h2:=of_decide_eq_true (kr.1 hi).2;rw[<-h2]at hx;exact CJ.2 (List.mem_of_mem_drop (List.mem_of_mem_take hx))
theorem vX {L:List En} (hF:∀e∈L,iT e.1) {k:List UInt8} {xs:List (List UInt8)} {i:Nat} {e:En} (h:L[i]? =some e) (hp:sJ k xs e≠none) {x:List UInt8} (hx:x∈xs):((i:Int),jO (ej e.1.2 k) x)∈pk L (dv (k,x)):=by
 have h0:0<xG (ej e.1.2 k) xs:=by
  unfold sJ yG at hp
  split at hp
  ·assumption
  ·exact absurd G hp
 exact(Qv hF).2 ⟨i,e,h,G,Ub h0 hx⟩
theorem IM {P:List Po} (hm:eJ (-1) P=true) {p:Po} (hp:p∈P) {d:Int} (hd:d<=p.1):eR P (idx P d:Nat)<=p.1:=by
 obtain⟨t,ht⟩:=bQ.1 hp;have h1:=Dd ht hd;have uF:=(ak.1 ht).1;obtain⟨q,hq⟩:∃q,P[idx P d]? =some q:=⟨_,aq hV⟩;rw[jU (d:=q.1) (ps:=q.2) hq];rcases cT (idx P d) t with h|h
 ·have:=nU hm hq ht h;omega
 ·have e:idx P d=t:=by omega
  rw[e,ht]at hq;cases hq;exact oh _
theorem QS {P:List Po} (hm:eJ (-1) P=true) {p:Po} (hp:p∈P) {i:Nat} {d:Int} {ps:List Int} (hi:P[i]? =some (d,ps)) (hd:d<p.1):eR P ((i+1:Nat):Int)<=p.1:=by
 obtain⟨t,ht⟩:=bQ.1 hp;have uF:=(ak.1 ht).1
 have hit:i<t:=by
  rcases fF t i with h|h|h
  ·have:=nU hm ht hi h;simp only at this;omega
  ·subst h;rw[hi]at ht;cases ht;simp only at hd;omega
  ·exact h
 obtain⟨q,hq⟩:∃q,P[i+1]? =some q:=⟨_,aq hV⟩;rw[jU (d:=q.1) (ps:=q.2) hq];rcases cT (i+1) t with h|h
 ·have:=nU hm hq ht h;omega
 ·have e:i+1=t:=by omega
  rw[e,ht]at hq;cases hq;exact oh _
theorem Kd {f:En->Option Int} {L:List En} {m:Nat}:∀n,(∀i e,m<=i->i<m+n->L[i]? =some e->f e=none)->iy f 0 (L.take (m+n))=iy f 0 (L.take m)
 |0,_=>rfl
 |n+1,h=>by
  rw[<-Kd n λi e h1 h2=>h i e h1 hV,<-Nat.add_assoc]
  cases hL:L[m+n]? with
  |some e=>rw[vS hL];unfold DX;rw[h _ e hV hV hL,bz]
  |none=>rw[cj,hL];simp
theorem vY {f:En->Option Int} {L:List En} {m n:Nat} (hmn:m<=n) (h:∀i e,m<=i->i<n->L[i]? =some e->f e=none):iy f 0 (L.take n)=iy f 0 (L.take m):=by
 obtain⟨c,rfl⟩:∃c,n=m+c:=⟨n-m,by omega⟩;exact Kd c h
theorem CU {m:List Po} {j x:Int} (hj: -1<=j/\j<=m.length) (hx:0<=x) (eU:∀(t:Nat) p,(t:Int)<j->m[t]? =some p->p.1<x):tG m j x=idx m x:=by
 unfold tG
 split
 ·rename_i h
  rcases fa m j with⟨h0,h1,_⟩|⟨t,d,ps,rfl,ht,h1,_⟩|⟨h0,h1,_⟩
  ·omega
  ·rw[idx_eq (i:=t) (λa ha p hp=>eU a p hV hp) (λp hp=>by rw[ht]at hp;cases hp;simp only;omega) hV]
  ·rw[idx_eq (i:=m.length) (λa ha p hp=>eU a p hV hp) (λp hp=>by simp at hp) (aK _)];omega
 ·rfl
theorem AV {m:List Po} {x:Int} (hx:x<=2147483648):x<=eR m (idx m x:Nat):=by
 rcases fa m (idx m x:Nat)with⟨h0,h1,_⟩|⟨t,d,ps,he,ht,h1,_⟩|⟨h0,h1,_⟩
 ·omega
 ·obtain rfl:idx m x=t:=by omega
  have:=zy ht;simp only at this;omega
 ·omega
theorem pq {P:List Po} (hm:eJ (-1) P=true) {i:Int} (hi:0<=i):∃D:Nat,eR P i=(D:Int)/\D<=2147483648:=by
 have h:=xe hm i
 have h0:0<=eR P i:=by
  rcases fa P i with⟨h1,_⟩|⟨j,d,ps,rfl,hx,h2,_⟩|⟨_,h2,_⟩
  ·omega
  ·have:=mc hm hx;omega
  ·omega
 exact⟨(eR P i).toNat,by omega,by omega⟩
theorem VB {L:List En} (hF:∀e∈L,iT e.1) {t:Fd} {i:Int} {D:Nat} (h:eR (pk L (dv t)) i=(D:Int)) (hD:D<2147483648):∃e,L[D]? =some e/\gy (pk L (dv t)) i=jO (ej e.1.2 t.1) t.2/\∃j:Nat,∃ps,i=j/\(pk L (dv t))[j]? =some ((D:Int),ps):=by
 rcases fa (pk L (dv t)) i with⟨_,h1,_⟩|⟨j,d,ps,rfl,hx,h2,h3⟩|⟨_,h1,_⟩
 ·omega
 ·obtain⟨d',e,h4,h5,_⟩:=(Qv hF).1 (ao hx)
  cases h5;have:d'=D:=by omega
  subst this;exact⟨e,h4,h3,j,_,G,hx⟩
 ·omega
theorem IN {ws:List (List UInt8)} (h:ws.length<=500) (x:List UInt8):Vv (jO ws x):=by
 have hl:=Gc ws x;refine⟨?_,?_,by omega⟩
 ·rw[qd];exact eh.2 ((List.pairwise_lt_range.sublist List.filter_sublist).imp λh=>by omega)
 ·rw[qd];intro y hy;obtain⟨i,hi,rfl⟩:=cO.1 hy;have:=List.mem_range.1 (kr.1 hi).1;omega
theorem QT {P:List Po} (hm:eJ (-1) P=true):idx P 0=0:=idx_eq (λj h=>absurd h (fp _)) (λp hp=>(mc hm (d:=p.1) (ps:=p.2) hp).1) (bA _)
theorem AW {P:List Po} (hm:eJ (-1) P=true) {i:Nat} {d:Int} {ps:List Int} (hi:P[i]? =some (d,ps)):d<eR P ((i+1:Nat):Int):=by
 have hd:=mc hm hi;rcases fa P ((i+1:Nat):Int)with⟨h0,_⟩|⟨j,d',ps',he,hx,h1,_⟩|⟨_,h1,_⟩
 ·omega
 ·have:=nU hm hi hx hV;simp only at this;omega
 ·omega
theorem L3 {f:En->Option Int} {e:En} {s:Int} (h:f e=some s) (i:Nat):DX f i e=[((i:Int),s)]:=by unfold DX;rw[h]
theorem L4 {f:En->Option Int} {e:En} (h:f e=none) (i:Nat):DX f i e=[]:=by unfold DX;rw[h]
def ug (L:List En) (k:List UInt8) (xs:List (List UInt8)) (bs:List Nat) (pos:Nat->Int) (M:aP) (w:World):Prop:=∀(j:Nat) b x,bs[j]? =some b->xs[j]? =some x->Cu 323 (pk L (dv (k,x))) (pos j) M w b
theorem ug.step {L:List En} {k:List UInt8} {xs:List (List UInt8)} {bs:List Nat} {pos:Nat->Int} {M M' N:aP} {w w':World} (h:ug L k xs bs pos M w) (s:Step M w M' w' N) (hn:∀b∈bs,¬N b):ug L k xs bs pos M' w':=λj b x hb hx=>(h j b x hb hx).step s (hn b (ao hb))
theorem ug.QU {L:List En} {k:List UInt8} {xs:List (List UInt8)} {bs:List Nat} {pos:Nat->Int} {M M':aP} {w w':World} (h:ug L k xs bs pos M w) (nN:bs.Nodup) {j b:Nat} {x:List UInt8} {i:Int} (hb:bs[j]? =some b) (hx:xs[j]? =some x) (s:Step M w M' w' (λc=>c=b)) (hc:Cu 323 (pk L (dv (k,x))) i M' w' b):ug L k xs bs (λj'=>if j'=j then i else pos j') M' w':=by
 intro j' b' x' D9 QV;by_cases e:j'=j
 ·subst e;rw[hb]at D9;rw[hx]at QV
  cases D9;cases QV;dsimp only;rw[if_pos rfl];exact hc
 ·dsimp only;rw[if_neg e];refine (h j' b' x' D9 QV).step s λNK=>e ?_
  obtain⟨h1,h2⟩:=ak.1 hb;obtain⟨h3,h4⟩:=ak.1 D9;rcases fF j' j with h|h|h
  ·exact absurd (h4.trans (NK.trans h2.symm)) (pw.1 nN _ _ h3 h1 h)
  ·exact h
  ·exact absurd (h2.trans (NK.symm.trans h4.symm)) (pw.1 nN _ _ h1 h3 h)
theorem ug.cell {L:List En} {k:List UInt8} {xs:List (List UInt8)} {bs:List Nat} {pos:Nat->Int} {M:aP} {w:World} (h:ug L k xs bs pos M w) (hl:bs.length<=xs.length) {b:Nat} (hb:b∈bs):∃cs,w.heap[b]? =some (.cells cs 323 (0,0)):=by
 obtain⟨j,hj⟩:=bQ.1 hb;have qw:=(ak.1 hj).1;obtain⟨_,_,_,_,_,hc,_⟩:=h j b _ hj (aq hV);exact⟨_,hc⟩
theorem ug.snoc {L:List En} {k:List UInt8} {xs:List (List UInt8)} {bs:List Nat} {M:aP} {w:World} (h:ug L k xs bs (λ_=> -1) M w) {b:Nat} {x:List UInt8} (hx:xs[bs.length]? =some x) (hc:Cu 323 (pk L (dv (k,x))) (-1) M w b):ug L k xs (bs++[b]) (λ_=> -1) M w:=by
 intro j b' x' D9 QV;rcases fF j bs.length with h1|h1|h1
 ·rw[List.getElem?_append_left h1]at D9;exact h j b' x' D9 QV
 ·subst h1;rw[oe (aK _)]at D9;rw[hx]at QV;simp at D9;subst D9;cases QV;exact hc
 ·rw[dO a06]at D9;cases D9
def xN (L:List En) (k:List UInt8) (xs:List (List UInt8)) (pos:Nat->Int) (d:Nat):Prop:=∀(j:Nat) x,xs[j]? =some x->∀(t:Nat) p,(t:Int)<pos j->(pk L (dv (k,x)))[t]? =some p->p.1<(d:Int)
theorem xN.QU {L:List En} {k:List UInt8} {xs:List (List UInt8)} {pos:Nat->Int} {d d':Nat} (h:xN L k xs pos d) (hd:d<=d') {j:Nat} {i:Int} (hi:∀x,xs[j]? =some x->∀(t:Nat) p,(t:Int)<i->(pk L (dv (k,x)))[t]? =some p->p.1<(d':Int)):xN L k xs (λj'=>if j'=j then i else pos j') d':=by
 intro j' x hx t p ht hp;dsimp only at ht;by_cases e:j'=j
 ·subst e;rw[if_pos rfl]at ht;exact hi x hx t p ht hp
 ·rw[if_neg e]at ht;have:=h j' x hx t p ht hp;omega
set_option maxHeartbeats 4000000 in
theorem D4 {M:aP} {L:List En} {k:List UInt8} {xs:List (List UInt8)} {v0 vx:Value} (w0:World) (hM:Lt M w0) (hs:dp RT.se M w0 v0 (Ih (j6 L))) (fh:CC (-1) L=true) (hn:L.length<=100000) (hx:(RT.str.sl).V M w0 xs vx) (hk:k.length<=140737488355328) (hxs:∀x∈xs,x.length<=140737488355328) (fB:xs≠[]) (hx6:xs.length<=1000):
  Spec Tryz.prog 106 #[v0,sv k,vx] w0 (λv w=>∃M',Lt M' w/\Step M w0 M' w aH/\Own RT.fo 45 M' w w0.heap.size v (iy (sJ k xs) 0 L)):=by
 have jq:=hM;have hF:=lN fh;have hOK:∀x∈xs,OkC (pk L (dv (k,x))):=λx _=>P9 hF hV _
 obtain⟨x0,wT⟩:∃x,xs[0]? =some x:=⟨_,aq (eA.2 fB)⟩;have Y7:x0∈xs:=ao wT;have wH:=hOK x0 Y7;have hlp:=eA.2 fB;refine bD (args:=[_,_,_]) (fn:=Tryz.f106) Tryz.func106 G (n:=88) Tryz.ntmps106 ?_;have S:Step M w0 M w0 aH:=bg;refine T.aU (Rg.a8 G G (T.aU (Rg.a8 G G (aQ (T.aU (ab G G ?_))))));have yM:=dJ hx;refine bR aI G hx G (ab G G (ad (bp ?_)));refine dz (σ:=Nat×Value×List Nat) (λq=>[(0,v0),(1,sv k),(7,q.2.1),(19,vx),(20,.int .i64 (xs.length:Int)),(21,.int .i64 (q.1:Int))]) (λq w=>q.1<=xs.length/\q.2.2.length=q.1/\q.2.2.Nodup/\(∀b∈q.2.2,w0.heap.size<=b)/\∃M2,Lt M2 w/\Step M w0 M2 w aH/\dp RT.se M2 w v0 (Ih (j6 L))/\(RT.str.sl).V M2 w xs vx/\ug L k xs q.2.2 (λ_=> -1) M2 w/\Own RT.Eg 272 M2 w w0.heap.size q.2.1 q.2.2) (λq=>xs.length-q.1) (0,.slice none 0 0,[]) a04 ?_ ?_
 ·exact⟨bA _,rfl,List.nodup_nil,λb h=>by(cases h),_,hM,S,hs,hx,λj b x h=>by(simp at h),ep _ _ _ _ _⟩
 ·clear hM S hs hx;rintro⟨i,vb,bs⟩ w ⟨hi,uv,nN,Y8,M2,hM,S,hs,hx,kD,ie⟩;dsimp only at hi uv nN Y8 kD ie ⊢;refine T.aU (cH G G G (ad (aQ ?_)));refine bH G (λc3=>?_) (λc3=>?_)
  ·refine aM (aQ (bp (T.aU ?_)));obtain⟨x,Ut⟩:∃x,xs[i]? =some x:=⟨_,aq hV⟩;refine cD aI I9 G G G hx ck hV (λu40 x_ ke alS=>?_);rw[av]at ke;obtain rfl:=aG (Ut.symm.trans ke);refine bV aE G G G G G alS ck (λv41 alT=>?_);obtain rfl:=eF alT;refine Rg.a8 rfl rfl (ay (ab rfl rfl (ab rfl rfl (ab rfl rfl (ab rfl rfl (cx (places:=[(0,1),(1,1)]) bS nL WC rfl ⟨_,_,rfl,rfl,_,_,rfl,rfl,rfl⟩ (out:=[_,_]) ⟨0,[_],rfl,rfl,by simp[Value.cells],1,[_],rfl,rfl,by simp[Value.cells],rfl⟩ ?_))))));refine aV rfl rfl TY (vN (ls:=(keysOf L).map (pk L)) (t:=(k,x)) _ hM hs (pW L) rfl (by rw[cg];rfl) hk (hxs x (ao Ut))) (λr55 w55 hc=>?_);obtain⟨bc,rfl,hz,Y9,hC⟩:=hc;have hz0:=S.size;have Ty:∀b∈bs,b<bc:=λb hb=>by obtain⟨_,h⟩:=kD.cell hV hb;have:=ah h;omega
   generalize ins M2 bc=Mc at Y9 hC;replace hC:Cu 323 (pk L (dv (k,x))) (-1) Mc w55 bc:=by have h:=hC;rw[show TU (Ih (j6 L)).2.2.1 ((keysOf L).map (pk L)) (dv (k,x))=(pk L (dv (k,x)))from P2 _]at h;exact h
   replace hs:=hs.le q0 Y9.le;replace hx:=hx.le Y9.le;replace ie:=ie.br Y9;replace kD:=kD.step Y9 (λb hb h=>h);replace hM:=Y9.lt hM;have:=S.size;replace S:=S.ar Y9;refine dT (A:=RT.Eg) (hn:=by decide) (M:=Mc) iX Gx q0 G G hM (oS.2 G) (.inr ⟨G,G⟩) (λad2 au1 Gy IP=>?_);replace hs:=hs.le q0 IP.le;replace hx:=hx.le IP.le;replace ie:=ie.br IP;replace kD:=kD.step IP (λb hb h=>h);replace hC:=hC.step IP (λh=>h);replace hM:=IP.lt hM;have:=S.size;replace S:=S.ar IP;refine cI (M:=Mc) (base:=w0.heap.size) iX Gx rfl rfl rfl rfl ie Gy ck (by rw[eS];omega) (by rw[eS];omega) (S.size) (λacu au2 ajk ad3 vF=>?_);replace hs:=hs.le q0 vF.le;replace hx:=hx.le vF.le;replace Gy:=Gy.le vF.le;replace kD:=kD.step vF (λb hb h=>by obtain⟨_,kW⟩:=kD.cell hV hb;first|exact ie.fN kW q0 h|exact kF.fN kW q0 h|exact G4.fN kW q0 h);replace hC:=hC.step vF (λh=>by obtain⟨_,_,_,_,_,CT,_⟩:=id hC;exact ie.fN CT q0 h);replace hM:=vF.lt hM;have:=S.size;replace S:=S.cf vF ie (aK _);replace ie:=ad3;refine Rg.a8 G G (ay (aX G G G hV (ab G G (ad ?_))));refine⟨G,(i+1,acu,bs++[bc]),a04,?_,?_⟩
   ·exact⟨by omega,by rw[bT,eS];omega,List.nodup_append.2 ⟨nN,by simp,λa ha b hb=>by simp at hb;subst hb;have:=Ty a ha;omega⟩,λb hb=>by rcases dH.1 hb with h|h;exact Y8 b h;simp at h;subst h;omega,_,hM,S,hs,hx,kD.snoc (by rw[uv];exact Ut) hC,ie⟩
   ·dsimp only;omega
  ·refine de (T.aU ?_);have WM:bs.length=xs.length:=by omega
   obtain⟨b0,zK⟩:∃b,bs[0]? =some b:=⟨_,aq hV⟩;refine Rg.a8 G G (aQ (T.aU (ab G G ?_)));have ad4:=ie.close (hn:=by decide) jq S hV;refine cD (A:=RT.Eg) (hn:=by decide) iX Gx G G G ad4 ck hV (λu81 x_ ke Za=>?_);obtain rfl:=aG ((show bs[0]? =some b0 from zK).symm.trans ke);refine bV Tryz.underlying272 G G G G G Za ck (λv81 Zb=>?_);obtain rfl:=oS.1 Zb;obtain⟨_,_,_,_,_,CT,_⟩:=id (kD 0 _ _ zK wT);refine aV G G It (pf (kD 0 _ _ zK wT) hM wH.may wH.ps wH.by_ wH.ln) (λr83 w83 hc=>?_);obtain⟨rfl,s83,hC⟩:=hc;have KX:nt (pk L (dv (k,x0))) (-1)=0:=by unfold nt;rw[if_pos hV];omega
   rw[KX]at hC ⊢;obtain⟨D,hD,Kq⟩:=pq wH.may (i:=0) (oh _);rw[hD];replace kD:=kD.QU nN zK wT s83 hC;replace ie:=ie.step s83 (λc hc (h:c=b0)=>ie.fN CT q0 (h▸hc));replace S:=S.cE s83 (λc (h:c=b0)=>by have:=Y8 b0 (ao zK);omega);replace hM:=s83.lt hM;refine Rg.a8 G G (bp ?_);refine dz (σ:=Nat×Value) (λq=>[(7,vb),(10,q.2),(11,.int .i64 (q.1:Int))]) (λq w=>q.1<=2147483648/\∃M2 pos,Lt M2 w/\Step M w0 M2 w aH/\ug L k xs bs pos M2 w/\xN L k xs pos q.1/\eR (pk L (dv (k,x0))) (pos 0)=(q.1:Int)/\Own RT.Eg 272 M2 w w0.heap.size vb bs/\Own RT.fo 45 M2 w w0.heap.size q.2 (iy (sJ k xs) 0 (L.take q.1))) (λq=>2147483648-q.1) (D,.slice none 0 0) a11 ?_ ?_
   ·refine ⟨Kq,_,_,hM,S,kD,(show xN L k xs (λ_=> -1) 0 from λj x hx t p h=>by dsimp only at h;omega).QU (bA _) (λx hx t p h=>by omega),by dsimp only;rw[if_pos rfl];exact hD,ie,?_⟩;rw[show iy (sJ k xs) 0 (L.take D)=[]from vY (m:=0) (bA _) λi e _ h2 h3=>iE λhp=>by have:=IM wH.may (vX hF h3 hp Y7) (d:=0) an7;rw[QT wH.may,show eR (pk L (dv (k,x0))) ((0:Nat):Int)=(D:Int)from hD]at this;simp only at this;omega];exact ep _ _ _ _ _
   ·clear hM S kD ie hD hC;rintro⟨D,vo⟩ w ⟨Kq,M2,pos,hM,S,kD,RM,hD,ie,kF⟩;dsimp only at Kq RM hD kF ⊢;refine aQ (T.aU (ab G G (cH G G G (ad ?_))));refine bH G (λc9=>?_) (λc9=>?_)
    ·have au5:D<2147483648:=by omega
     refine aM (bp (T.aU (ab G G (Rg.a8 G G (aQ (T.aU (ab G G ?_)))))));have Zc:=ie.close (hn:=by decide) jq S hV;refine bR (A:=RT.Eg) (hn:=by decide) iX G Zc G (ab G G (ad (bp ?_)));refine dz (σ:=Nat×Nat) (λq=>[(7,vb),(10,vo),(11,.int .i64 (D:Int)),(12,.int .i64 (q.2:Int)),(41,vb),(42,.int .i64 (bs.length:Int)),(43,.int .i64 (q.1:Int))]) (λq w=>q.1<=bs.length/\D<=q.2/\q.2<=2147483648/\∃M2 pos,Lt M2 w/\Step M w0 M2 w aH/\ug L k xs bs pos M2 w/\xN L k xs pos D/\(∀(j:Nat) x,j<q.1->xs[j]? =some x->pos j=((idx (pk L (dv (k,x))) D:Nat):Int)/\eR (pk L (dv (k,x))) ((idx (pk L (dv (k,x))) D:Nat):Int)<=(q.2:Int))/\(q.2=D\/∃x∈xs,(q.2:Int)=eR (pk L (dv (k,x))) ((idx (pk L (dv (k,x))) D:Nat):Int))/\Own RT.Eg 272 M2 w w0.heap.size vb bs/\Own RT.fo 45 M2 w w0.heap.size vo (iy (sJ k xs) 0 (L.take D))) (λq=>bs.length-q.1) (0,D) a92 ?_ ?_
     ·exact⟨bA _,aK _,Kq,_,_,hM,S,kD,RM,λj x h=>by(exact absurd h (fp _)),.inl G,ie,kF⟩
     ·clear hM S kD RM ie kF;rintro⟨j,at_⟩ w ⟨hj,hDa,hal,M2,pos,hM,S,kD,RM,MC,Z3,ie,kF⟩;dsimp only at hj hDa hal MC Z3 ⊢;refine T.aU (cH G G G (ad (aQ ?_)));refine bH G (λET=>?_) (λET=>?_)
      ·refine aM (aQ (bp (T.aU ?_)));obtain⟨bj,Ix⟩:∃x,bs[j]? =some x:=⟨_,aq hV⟩;obtain⟨x,F4⟩:∃x,xs[j]? =some x:=⟨_,aq hV⟩;have VC:=hOK x (ao F4);have ad5:=ie.close (hn:=by decide) jq S hV;refine cD (A:=RT.Eg) (hn:=by decide) iX Gx G G G ad5 ck hV (λu13 x_ ke YW=>?_);rw[av]at ke;obtain rfl:=aG ((show bs[j]? =some bj from Ix).symm.trans ke);refine bV Tryz.underlying272 G G G G G YW ck (λX1 Gq=>?_);obtain rfl:=oS.1 Gq;refine Rg.a8 G G (ay (ab G G (ab G G (ab G G ?_))));obtain⟨_,_,_,_,_,CT,_⟩:=id (kD j _ _ Ix F4);refine aV G G TV (p9 (kD j _ _ Ix F4) hM VC.may VC.ps VC.by_ VC.ln hV) (λalU alV hc=>?_);obtain⟨rfl,QW,hC⟩:=hc;have hjr:=(kD j _ _ Ix F4).ED;rw[CU hjr hV (RM j x F4)]at hC ⊢;obtain⟨A,hA,hAl⟩:=pq VC.may (i:=((idx (pk L (dv (k,x))) D:Nat):Int)) hV;rw[hA];replace kD:=kD.QU nN Ix F4 QW hC;replace ie:=ie.step QW (λc hc (h:c=bj)=>ie.fN CT q0 (h▸hc));replace kF:=kF.step QW (λc hc (h:c=bj)=>kF.fN CT q0 (h▸hc));replace S:=S.cE QW (λc (h:c=bj)=>by have:=Y8 bj (ao Ix);omega);replace hM:=QW.lt hM;refine Rg.max2 G G G (aZ (v':= .int .i64 ((max at_ A:Nat):Int)) a52 (Rg.a8 rfl rfl (ay (aX rfl rfl rfl hV (ab rfl rfl (ad ?_))))));refine⟨G,(j+1,max at_ A),a92,?_,?_⟩
       ·refine⟨by omega,by omega,by omega,_,_,hM,S,kD,RM.QU (aK _) (λy hy t p h1 h2=>by rw[F4]at hy;cases hy;exact zx (Int.ofNat_lt.1 h1) h2),λj' y hj' hy=>?_,?_,ie,kF⟩
        ·dsimp only at hj' ⊢;by_cases e:j'=j
         ·subst e;rw[F4]at hy;cases hy;rw[if_pos rfl];exact⟨G,by omega⟩
         ·rw[if_neg e];obtain⟨h1,h2⟩:=MC j' y hV hy;exact⟨h1,by omega⟩
        ·dsimp only;rcases Nat.le_total A at_ with h|h
         ·rw[Nat.max_eq_left h];exact Z3
         ·rw[Nat.max_eq_right h];exact .inr ⟨x,ao F4,hA.symm⟩
       ·dsimp only;omega
      ·refine de (aQ (T.aU (ab G G (ab G G (fR G G G (ad ?_))))));refine bH G (λG2=>?_) (λG2=>?_)
       ·have hgA:∀D2:Nat,eR (pk L (dv (k,x0))) ((idx (pk L (dv (k,x0))) at_:Nat):Int)=(D2:Int)->∀(i:Nat) e,D<=i->i<D2->L[i]? =some e->sJ k xs e=none:=λD2 L5 i e h1 h2 h3=>by
         rcases Z3 with h|⟨y,hy,h⟩
         ·omega
         ·refine iE λhp=> ?_
          have q1:=IM (hOK y hy).may (vX hF h3 hp hy) (d:=(D:Int)) an7;have q2:=IM wH.may (vX hF h3 hp Y7) (d:=(at_:Int)) (by simp only at q1 ⊢;omega);simp only at q1 q2;omega
        refine T.aU (ab G G ?_);have Zd:=ie.close (hn:=by decide) jq S hV;refine cD (A:=RT.Eg) (hn:=by decide) iX Gx G G G Zd ck hV (λau8 x_ ke ad6=>?_);obtain rfl:=aG ((show bs[0]? =some b0 from zK).symm.trans ke);refine bV Tryz.underlying272 G G G G G ad6 ck (λv171 ad7=>?_);obtain rfl:=oS.1 ad7;refine ab G G ?_;obtain⟨_,_,_,_,_,CT,_⟩:=id (kD 0 _ _ zK wT);refine aV G G TV (p9 (kD 0 _ _ zK wT) hM wH.may wH.ps wH.by_ wH.ln (to:=(at_:Int)) hV) (λau9 ava hc=>?_);obtain⟨rfl,QX,hC⟩:=hc;have hjr:=(kD 0 _ _ zK wT).ED;rw[CU hjr hV (λt p h1 h2=>by have:=RM 0 x0 wT t p h1 h2;omega)]at hC ⊢;obtain⟨D2,L5,QY⟩:=pq wH.may (i:=((idx (pk L (dv (k,x0))) at_:Nat):Int)) hV;rw[L5];have Mr:=AV (m:=(pk L (dv (k,x0)))) (x:=(at_:Int)) hV;replace kD:=kD.QU nN zK wT QX hC;replace ie:=ie.step QX (λc hc (h:c=b0)=>ie.fN CT q0 (h▸hc));replace kF:=kF.step QX (λc hc (h:c=b0)=>kF.fN CT q0 (h▸hc));replace S:=S.cE QX (λc (h:c=b0)=>by have:=Y8 b0 (ao zK);omega);replace hM:=QX.lt hM;refine Rg.a8 G G (de ?_);refine⟨G,(D2,vo),a11,?_,?_⟩
        ·exact⟨QY,_,_,hM,S,kD,RM.QU hV (λx hx t p h1 h2=>by rw[wT]at hx;cases hx;have:=zx (Int.ofNat_lt.1 h1) h2;omega),by dsimp only;rw[if_pos rfl];exact L5,ie,by rw[vY (m:=D) hV (hgA D2 L5)];exact kF⟩
        ·dsimp only;omega
       ·have haD:at_=D:=by omega
        have ad8:∀(j':Nat) y,xs[j']? =some y->pos j'=((idx (pk L (dv (k,y))) D:Nat):Int)/\eR (pk L (dv (k,y))) (pos j')=(D:Int):=λj' y hy=>by
         obtain⟨h1,h2⟩:=MC j' y (by have:=(ak.1 hy).1;omega) hy;have h3:=AV (m:=(pk L (dv (k,y)))) (x:=(D:Int)) hV;exact⟨h1,by rw[h1];omega⟩
        obtain⟨e,hLe,_,t0,ps0,ht0,Gz⟩:=VB hF (ad8 0 x0 wT).2 hV
        have yN:∀y j',xs[j']? =some y->gy (pk L (dv (k,y))) (pos j')=jO (ej e.1.2 k) y:=λy j' hy=>by
         obtain⟨e',h1,h2,_⟩:=VB hF (ad8 j' y hy).2 hV;rw[hLe]at h1;cases h1;exact h2
        have hwf:(ej e.1.2 k).length<=500:=oc (hF e (ao hLe)) k;have TR:=J8 (ej e.1.2 k) xs
        have hsd:J5 (xs.map (jO (ej e.1.2 k)))=xG (ej e.1.2 k) xs:=by
         cases hxe:xs with
         |nil=>exact absurd hxe fB
         |cons a tl=>exact Qt _ a tl
        have uF:=(ak.1 Gz).1
        have hgB:∀D2:Nat,eR (pk L (dv (k,x0))) ((t0+1:Nat):Int)=(D2:Int)->∀(i:Nat) e',D+1<=i->i<D2->L[i]? =some e'→sJ k xs e'=none:=λD2 L5 i e' h1 h2 h3=>by
         refine iE λhp=> ?_
         have q2:=QS wH.may (vX hF h3 hp Y7) Gz an7;simp only at q2;omega
        clear MC Z3;refine aM (T.aU (Rg.a8 G G (aQ (T.aU (ab G G ?_)))));have Zc:=ie.close (hn:=by decide) jq S hV;refine bR (A:=RT.Eg) (hn:=by decide) iX G Zc G (ab G G (ad (bp ?_)));refine dz (σ:=Nat×Value) (λq=>[(7,vb),(10,vo),(11,.int .i64 (D:Int)),(15,q.2),(61,vb),(62,.int .i64 (bs.length:Int)),(63,.int .i64 (q.1:Int))]) (λq w=>q.1<=bs.length/\∃M2,Lt M2 w/\Step M w0 M2 w aH/\ug L k xs bs pos M2 w/\Own RT.Eg 272 M2 w w0.heap.size vb bs/\Own RT.fo 45 M2 w w0.heap.size vo (iy (sJ k xs) 0 (L.take D))/\Own ((RT.int .i64).sl) 61 M2 w w0.heap.size q.2 ((xs.take q.1).map (jO (ej e.1.2 k)))) (λq=>bs.length-q.1) (0,.slice none 0 0) a92 ?_ ?_
        ·exact⟨bA _,_,hM,S,kD,ie,kF,ep _ _ _ _ _⟩
        ·clear hM S kD ie kF;rintro⟨j,vr⟩ w ⟨hj,M2,hM,S,kD,ie,kF,G4⟩;dsimp only at hj G4 ⊢;refine T.aU (cH G G G (ad (aQ ?_)));refine bH G (λc20=>?_) (λc20=>?_)
         ·refine aM (aQ (bp (T.aU ?_)));obtain⟨bj,Ix⟩:∃x,bs[j]? =some x:=⟨_,aq hV⟩;obtain⟨x,F4⟩:∃x,xs[j]? =some x:=⟨_,aq hV⟩;have VC:=hOK x (ao F4);have ad9:=ie.close (hn:=by decide) jq S hV;refine cD (A:=RT.Eg) (hn:=by decide) iX Gx G G G ad9 ck hV (λu21 x_ ke alX=>?_);rw[av]at ke;obtain rfl:=aG ((show bs[j]? =some bj from Ix).symm.trans ke);refine bV Tryz.underlying272 G G G G G alX ck (λv21 Y6=>?_);obtain rfl:=oS.1 Y6;refine Rg.a8 G G (ay (ab G G (ab G G ?_)));refine aV G G alR (DP (kD j _ _ Ix F4) VC.may VC.ps hM) (λr22 w22 hc=>?_);obtain⟨L6,yT⟩:=hc;rw[(yN x j F4)]at L6;replace ie:=ie.br yT;replace kF:=kF.br yT;replace G4:=G4.br yT;replace kD:=kD.step yT (λb hb h=>h);replace hM:=yT.lt hM;have:=S.size;replace S:=S.ar yT;refine dT (A:=((RT.int .i64).sl)) (hn:=by decide) (M:=M2) gJ qB q0 G G hM (L6) (.inr ⟨G,G⟩) (λapB apC IS AX=>?_);replace L6:=L6.le AX.le;replace ie:=ie.br AX;replace kF:=kF.br AX;replace G4:=G4.br AX;replace kD:=kD.step AX (λb hb h=>h);replace hM:=AX.lt hM;have:=S.size;replace S:=S.ar AX;refine cI (M:=M2) (base:=w0.heap.size) gJ qB rfl rfl rfl rfl G4 IS ck (by rw[cg,bI,eS];omega) (by rw[cg,bI,eS];omega) (S.size) (λaea apD apE Ze AY=>?_);replace L6:=L6.le AY.le;replace IS:=IS.le AY.le;replace ie:=ie.step AY (λb h1 h2=>ie.jK G4 q0 h1 h2);replace kF:=kF.step AY (λb h1 h2=>kF.jK G4 q0 h1 h2);replace kD:=kD.step AY (λb hb h=>by obtain⟨_,kW⟩:=kD.cell hV hb;first|exact ie.fN kW q0 h|exact kF.fN kW q0 h|exact G4.fN kW q0 h)
          replace hM:=AY.lt hM;have:=S.size;replace S:=S.cf AY G4 (aK _);replace G4:=Ze;refine Rg.a8 G G (ay (aX G G G hV (ab G G (ad ?_))));refine⟨G,(j+1,aea),a92,?_,?_⟩
          ·exact⟨by omega,_,hM,S,kD,ie,kF,by rw[cj,F4,dS,eH];exact G4⟩
          ·dsimp only;omega
         ·refine de (aQ (T.aU (ab G G ?_)));have hrc:=G4.close (hn:=by decide) jq S (by rw[cg,bI];omega);rw[bM hV]at hrc;refine aV rfl rfl E54 (CS (M:=M) hrc (λl hl=>by obtain⟨x,_,rfl⟩:=cO.1 hl;exact IN hwf x) (by rw[cg];omega)) (λr24 w24 hc=>?_);obtain⟨rfl,rfl⟩:=hc;refine aZ (v':= .int .i64 (xG (ej e.1.2 k) xs:Int)) (by rw[hsd]) (Rg.a8 G G (T.aU (ab G G (fR G G G (ad ?_)))));refine bH G (λWN=>?_) (λWN=>?_)
          ·have hph:sJ k xs e=some (xG (ej e.1.2 k) xs:Int):=by unfold sJ yG;rw[if_pos hV]
           refine ay (ab rfl rfl (ab rfl rfl (ab rfl rfl (cx (places:=[(0,1),(1,1)]) bm fE qU rfl ⟨_,_,rfl,rfl,_,_,rfl,rfl,rfl⟩ (out:=[_,_]) ⟨0,[_],rfl,rfl,by simp[Value.cells],1,[_],rfl,rfl,by simp[Value.cells],rfl⟩ ?_))));refine dT (A:=RT.fo) (hn:=by decide) (M:=M2) an fE q0 G G hM (kX hV hV) (.inl G) (λapG apH IT GA=>?_);replace ie:=ie.br GA;replace kF:=kF.br GA;replace kD:=kD.step GA (λb hb h=>h);replace hM:=GA.lt hM;have:=S.size;replace S:=S.ar GA;refine cI (M:=M2) (base:=w0.heap.size) an fE G G G G kF IT ck (by have:=mi (f:=sJ k xs) (L.take D) 0;rw[bI]at this;rw[eS];omega) (by have:=mi (f:=sJ k xs) (L.take D) 0;rw[bI]at this;rw[eS];omega) (S.size) (λaeb apI apJ Zf GB=>?_);replace IT:=IT.le GB.le;replace ie:=ie.step GB (λb h1 h2=>ie.jK kF q0 h1 h2);replace kD:=kD.step GB (λb hb h=>by obtain⟨_,kW⟩:=kD.cell hV hb;first|exact ie.fN kW q0 h|exact kF.fN kW q0 h|exact G4.fN kW q0 h);replace hM:=GB.lt hM;have:=S.size;replace S:=S.cf GB kF (aK _);replace kF:=Zf;refine Rg.a8 G G (ay (ab G G ?_));have IU:=ie.close (hn:=by decide) jq S hV;refine cD (A:=RT.Eg) (hn:=by decide) iX Gx G G G IU ck hV (λalZ x_ ke QZ=>?_);obtain rfl:=aG ((show bs[0]? =some b0 from zK).symm.trans ke);refine bV Tryz.underlying272 G G G G G QZ ck (λal0 Q0=>?_);obtain rfl:=oS.1 Q0;obtain⟨_,_,_,_,_,CT,_⟩:=id (kD 0 _ _ zK wT);refine aV G G It (pf (kD 0 _ _ zK wT) hM wH.may wH.ps wH.by_ wH.ln) (λal1 al2 hc=>?_);obtain⟨rfl,AZ,hC⟩:=hc;have KX:nt (pk L (dv (k,x0))) (pos 0)=((t0+1:Nat):Int):=by unfold nt;rw[ht0,if_pos hV];omega
           rw[KX]at hC ⊢;obtain⟨D2,L5,QY⟩:=pq wH.may (i:=((t0+1:Nat):Int)) hV;rw[L5];have hDD:D<D2:=by have:=AW wH.may Gz;omega
           have hB0:∀x,xs[0]? =some x->∀(t:Nat) p,(t:Int)<((t0+1:Nat):Int)->(pk L (dv (k,x)))[t]? =some p->p.1<(D2:Int):=λx hx t p h1 h2=>by
            rw[wT]at hx;cases hx;rcases cT t t0 with h|h
            ·have:=nU wH.may h2 Gz h;simp only at this;omega
            ·obtain rfl:t=t0:=by omega
             rw[Gz]at h2;cases h2;simp only;omega
           replace kD:=kD.QU nN zK wT AZ hC;replace ie:=ie.step AZ (λc hc (h:c=b0)=>ie.fN CT q0 (h▸hc));replace kF:=kF.step AZ (λc hc (h:c=b0)=>kF.fN CT q0 (h▸hc));replace S:=S.cE AZ (λc (h:c=b0)=>by have:=Y8 b0 (ao zK);omega);replace hM:=AZ.lt hM;refine Rg.a8 G G ?_;refine⟨G,(D2,aeb),a11,?_,?_⟩
           ·exact⟨QY,_,_,hM,S,kD,RM.QU hV hB0,by dsimp only;rw[if_pos rfl];exact L5,ie,by rw[vY (m:=D+1) hV (hgB D2 L5),vS hLe,L3 hph _];exact kF⟩
           ·dsimp only;omega
          ·have hph:sJ k xs e=none:=by unfold sJ yG;rw[if_neg hV]
           refine aM (ay (ab G G ?_));have IU:=ie.close (hn:=by decide) jq S hV;refine cD (A:=RT.Eg) (hn:=by decide) iX Gx G G G IU ck hV (λalZ x_ ke QZ=>?_);obtain rfl:=aG ((show bs[0]? =some b0 from zK).symm.trans ke);refine bV Tryz.underlying272 G G G G G QZ ck (λal0 Q0=>?_);obtain rfl:=oS.1 Q0;obtain⟨_,_,_,_,_,CT,_⟩:=id (kD 0 _ _ zK wT);refine aV G G It (pf (kD 0 _ _ zK wT) hM wH.may wH.ps wH.by_ wH.ln) (λal1 al2 hc=>?_);obtain⟨rfl,AZ,hC⟩:=hc;have KX:nt (pk L (dv (k,x0))) (pos 0)=((t0+1:Nat):Int):=by unfold nt;rw[ht0,if_pos hV];omega
           rw[KX]at hC ⊢;obtain⟨D2,L5,QY⟩:=pq wH.may (i:=((t0+1:Nat):Int)) hV;rw[L5];have hDD:D<D2:=by have:=AW wH.may Gz;omega
           have hB0:∀x,xs[0]? =some x->∀(t:Nat) p,(t:Int)<((t0+1:Nat):Int)->(pk L (dv (k,x)))[t]? =some p->p.1<(D2:Int):=λx hx t p h1 h2=>by
            rw[wT]at hx;cases hx;rcases cT t t0 with h|h
            ·have:=nU wH.may h2 Gz h;simp only at this;omega
            ·obtain rfl:t=t0:=by omega
             rw[Gz]at h2;cases h2;simp only;omega
           replace kD:=kD.QU nN zK wT AZ hC;replace ie:=ie.step AZ (λc hc (h:c=b0)=>ie.fN CT q0 (h▸hc));replace kF:=kF.step AZ (λc hc (h:c=b0)=>kF.fN CT q0 (h▸hc));replace S:=S.cE AZ (λc (h:c=b0)=>by have:=Y8 b0 (ao zK);omega);replace hM:=AZ.lt hM;refine Rg.a8 G G ?_;refine⟨G,(D2,vo),a11,?_,?_⟩
           ·exact⟨QY,_,_,hM,S,kD,RM.QU hV hB0,by dsimp only;rw[if_pos rfl];exact L5,ie,by rw[vY (m:=D+1) hV (hgB D2 L5),vS hLe,L4 hph _,bz];exact kF⟩
           ·dsimp only;omega
    ·refine de (T.aU (ab G G (Rg.a8 G G (aS (aT G G ⟨_,hM,S,?_⟩)))));rw[bM hV]at kF;exact kF
end Go.K
namespace Go.K
open Go.Proofs
namespace TKSide
theorem MH:TI Tryz.prog 36 (.slice none 0 0) 1 24:=by unfold TI;kernel_rfl
theorem fE:TI Tryz.prog 45 (.agg #[(.int .i64 0),(.int .i64 0)]) 2 16:=by unfold TI;kernel_rfl
theorem A0:TI Tryz.prog 261 (.agg #[(.int .i64 0),(.int .i64 0),(.int .i64 0)]) 3 24:=by unfold TI;kernel_rfl
theorem Uc:TI Tryz.prog 313 (.pointer none) 1 8:=by unfold TI;kernel_rfl
theorem aec:placesOf Tryz.prog 261=[(0,1),(1,1),(2,1)].map some:=by kernel_rfl
end TKSide
open TKSide
set_option maxRecDepth 10000
theorem CV {M2:aP} {w6:World} {ba bb bx k:Nat} {a' b':List Fo} {v0 v1:Value} (hk:k<2) (fB:ba≠bb) (hxa:bx≠ba) (On:bx≠bb) (MD:M2 ba) (yF:M2 bb) (JS:w6.heap[ba]? =some (.cells #[v0] 36 (0,0))) (sk:((RT.fo).sl).V M2 w6 (lK a' (iZ a' b') (decide (0<k))) v0) (JT:w6.heap[bb]? =some (.cells #[v1] 36 (0,0))) (sz:((RT.fo).sl).V M2 w6 (lK b' (iZ a' b') (decide (1<k))) v1):
  ∃pk lk vk,[ba,bb][k]? =some pk/\[a',b'][k]? =some lk/\w6.heap[pk]? =some (.cells #[vk] 36 (0,0))/\((RT.fo).sl).V M2 w6 lk vk/\M2 pk/\(pk=ba\/pk=bb)/\pk≠bx/\(∀(w':World) (v':Value),(∀q o,q≠pk->q≠bx->w6.heap[q]? =some o->w'.heap[q]? =some o)->(∀l v,((RT.fo).sl).V M2 w6 l v->((RT.fo).sl).V M2 w' l v)->w'.heap[pk]? =some (.cells #[v'] 36 (0,0))->((RT.fo).sl).V M2 w' (eW lk (iZ a' b')) v'→
   ∃v0 v1,w'.heap[ba]? =some (.cells #[v0] 36 (0,0))/\((RT.fo).sl).V M2 w' (lK a' (iZ a' b') (decide (0<k+1))) v0/\w'.heap[bb]? =some (.cells #[v1] 36 (0,0))/\((RT.fo).sl).V M2 w' (lK b' (iZ a' b') (decide (1<k+1))) v1):=by
 match k with
 |0=>exact⟨ba,a',v0,rfl,rfl,JS,sk,MD,.inl rfl,λh=>hxa h.symm,λw' v' h1 h2 h3 h4=>⟨v',v1,h3,h4,h1 bb _ (λh=>fB h.symm) (λh=>On h.symm) JT,h2 _ _ sz⟩⟩
 |1=>exact⟨bb,b',v1,rfl,rfl,JT,sz,yF,.inr rfl,λh=>On h.symm,λw' v' h1 h2 h3 h4=>⟨v0,v',h1 ba _ fB (λh=>hxa h.symm) JS,h2 _ _ sk,h3,h4⟩⟩
 |k+2=>omega
theorem L7 {M:aP} {w0:World} {va vb:Value} {a b:List Fo} (hM:Lt M w0) (ha:((RT.fo).sl).V M w0 a va) (hb:((RT.fo).sl).V M w0 b vb):
  Spec Tryz.prog 158 #[va,vb] w0 (λv' w'=>∃ba bb,v'= .func (.func 200) #[] #[.pointer (some ⟨ba,0,none⟩),.pointer (some ⟨bb,0,none⟩)]/\w'.heap[ba]? =some (.cells #[va] 36 (0,0))/\w'.heap[bb]? =some (.cells #[vb] 36 (0,0))/\ba≠bb/\w0.heap.size<=ba/\w0.heap.size<=bb/\Step M w0 (ins (ins M ba) bb) w' aH):=by
 refine bD (args:=[_,_]) (fn:=Tryz.f158) Tryz.func158 G (n:=6) Tryz.ntmps158 (T.aU ?_);refine qu M G G (λba w1 h1 Sa hA s1=>?_);rw[ic ha]at hA;refine qu (ins M ba) G G (λbb w2 h2 GX hB s2=>?_);rw[ic hb]at hB;have hA2:=s2.aF hA;have z1:=s1.size;refine Rg.a8 G G (T.aU (jQ (xs:=[]) (ys:=[.tmp 2,.tmp 3]) G G G (Rg.a8 G G (aS ?_))));exact aT G G ⟨ba,bb,G,hA2,hB,by omega,h1,by omega,s1.ar s2⟩
set_option maxHeartbeats 2000000 in
theorem IV {w0:World} {ba bb yl:Nat} {a b:List Fo} {va vb:Value} {J:List Fo->List Fo->aP->World->Prop} {M:aP} {Jx:World->Prop} (fB:ba≠bb) (TA:∀a b M w,J a b M w->Lt M w/\M ba/\M bb) (lF:∀a b M w M' w',J a b M w->Step M w M' w' (λj=>j=ba\/j=bb)->J a b M' w') (hy:∀(a b:List Fo) (M:aP) (w:World),J a b M w->qR a->qR b->(a≠[]\/b≠[])->zo Tryz.prog yl [.agg #[.int .i64 (iZ a b),.int .i64 (sw a b 2),.int .i64 (sx a b 2)]].toArray w (λr w'=>∃c,r= .bool c/\(c=true->∃M' N,J (eW a (iZ a b)) (eW b (iZ a b)) M' w'∧Step M w M' w' N/\∀k,N k->k≠ba/\k≠bb)/\(c=false->Jx w'))) (ha:w0.heap[ba]? =some (.cells #[va] 36 (0,0))) (hb:w0.heap[bb]? =some (.cells #[vb] 36 (0,0))) (kS:((RT.fo).sl).V M w0 a va) (tb:((RT.fo).sl).V M w0 b vb) (oa:qR a) (ob:qR b) (h0:J a b M w0):
  Spec Tryz.prog 200 #[.func (.yield yl) #[] #[],.pointer (some ⟨ba,0,none⟩),.pointer (some ⟨bb,0,none⟩)] w0 (λ_ w'=>(∃M',J [] [] M' w')\/Jx w'):=by
 refine bD (args:=[_,_,_]) (fn:=Tryz.f200) Tryz.func200 G (n:=85) Tryz.ntmps200 (bp ?_);refine dz (σ:=List Fo×List Fo) (λs=>[(0,.func (.yield yl) #[] #[]),(1,.pointer (some ⟨ba,0,none⟩)),(2,.pointer (some ⟨bb,0,none⟩))]) (λs w=>qR s.1/\qR s.2/\∃va vb M1,J s.1 s.2 M1 w/\w.heap[ba]? =some (.cells #[va] 36 (0,0))/\w.heap[bb]? =some (.cells #[vb] 36 (0,0))/\((RT.fo).sl).V M1 w s.1 va/\((RT.fo).sl).V M1 w s.2 vb) (λs=>s.1.length+s.2.length) (a,b) a11 ?_ ?_
 ·exact⟨oa,ob,va,vb,M,h0,ha,hb,kS,tb⟩
 ·rintro⟨a',b'⟩ w1 ⟨RN,RO,va1,vb1,M1,hJ,NL,hB1,L8,L9⟩;dsimp only at RN RO hJ L8 L9 ⊢;obtain⟨eD,Ud,Ue⟩:=TA _ _ _ _ hJ;refine aQ (T.aU (aR an G G G VR G (bR an G L8 G (fR G G G (ab G G ?_)))));refine aB (g:=12) G (λUf=>?_) (λUf=>?_)
  ·have Q1:a'≠[]\/b'≠[]:= .inl (by intro h;rw[h]at Uf;simp at Uf);refine aj rfl rfl rfl rfl (aj rfl rfl rfl rfl (aj rfl rfl rfl rfl (aN rfl rfl rfl (ad (iz rfl (aM (bp (T.aU (cx (places:=[(0,1),(1,1),(2,1)]) dw A0 aec rfl ⟨_,_,rfl,rfl,rfl⟩ (out:=[_,.int .i64 0,.int .i64 0]) ⟨0,[_],rfl,rfl,by simp[Value.cells],rfl⟩ ?_)))))))));refine eu M1 A0 G (λbx w2 z2 z2' hX0 s2=>?_);obtain⟨M2,yJ⟩:∃M2,M2=ins M1 bx:=⟨_,rfl⟩;have Ug:M2 bx:=by rw[yJ];exact .inl G
   have MD:M2 ba:=by rw[yJ];exact .inr Ud
   have yF:M2 bb:=by rw[yJ];exact .inr Ue
   have hxa:bx≠ba:=by have:=ah NL;omega
   have On:bx≠bb:=by have:=ah hB1;omega
   rw[<-yJ]at s2;refine dm (M:=M2) A0 G G al4 rfl rfl hX0 Ug (λw3 hX3 s3=>?_);change w3.heap[bx]? =some (.cells #[.int .i64 2147483648,.int .i64 0,.int .i64 0] 261 (0,0))at hX3;have S3:=s2.cE s3 (λj hj=>by subst hj;exact z2);have hA3:=S3.aF NL;have hB3:=S3.aF hB1;have Q2:=L8.le S3.le;have Q3:=L9.le S3.le;have PC:=S3.lt eD;refine ad (aQ (T.aU (aR an G G G VR G (aR an G G G VR G ?_))));refine Rg.Kp (A:=(RT.fo).sl) (hn:=by decide) (M:=M2) (xs:=[a',b']) Tryz.underlying312 MH G q0 G ⟨_,_,_,G,G,G,Q2,_,_,_,G,G,G,Q3,G⟩ G PC (.inr ⟨G,G⟩) q0 (λu20 w4 IW s4=>?_);refine bR Tryz.underlying312 G IW G (ab G G (ad (bp ?_)));refine dz (σ:=Nat) (λs=>[(0,.func (.yield yl) #[] #[]),(1,.pointer (some ⟨ba,0,none⟩)),(2,.pointer (some ⟨bb,0,none⟩)),(4,.pointer (some ⟨bx,0,none⟩)),(20,u20),(21,.int .i64 2),(22,.int .i64 s)]) (λs w=>s<=2/\Step M1 w1 M2 w aH/\w.heap[bx]? =some (.cells #[.int .i64 (RB a' b' s),.int .i64 0,.int .i64 0] 261 (0,0))/\(((RT.fo).sl).sl).V M2 w [a',b'] u20) (λs=>2-s) 0 a92 ?_ ?_
   ·exact⟨bA _,S3.ar s4,s4.aF hX3,IW⟩
   ·rintro k w5 ⟨fC,S5,Ma,gg⟩;refine T.aU (cH G G G (ad (aQ ?_)));refine bH G (λc3=>?_) (λc3=>?_)
    ·refine aM (aQ (bp (T.aU ?_)))
     obtain⟨lk,nK⟩:∃x,[a',b'][k]? =some x:=by
      have Zg:k<[a',b'].length:=by simp;omega
      exact⟨_,aq Zg⟩
     have GY:([a',b']:List (List Fo)).length=2:=rfl;refine cD Tryz.underlying312 MH G G G (gg) ck a14 (λK2 H8 Aw sV=>?_);obtain rfl:lk=H8:=cY (aG (Aw.symm.trans (by rw[av];exact nK)));refine bV an G G G G G sV ck (λHB oY=>?_);replace oY:((RT.fo).sl).V M2 _ lk HB:=oY;refine Rg.a8 G G (T.aU (ab G G (bR an G oY G (fR G G G (ad ?_)))));refine bH G (λc5=>?_) (λc5=>?_)
     ·obtain⟨⟨d,s⟩,tl,rfl⟩:∃p tl,lk=p::tl:=by
       cases lk with
       |nil=>simp at c5
       |cons p tl=>exact⟨p,tl,rfl⟩
      apply T.sN (M:=M2) mixed [] [cy.eq _,cy.eq (.int .i64 (RB a' b' k)),cy.eq _,cy.ptr (RT.fo) (d,s),cy.ptr (RT.int .i64) d,cy.eq (.int .i64 d),cy.eq _] 7
      ·rfl
      ·rfl
      ·rfl
      ·rfl
      ·rfl
      ·exact a90
      ·exact sh
      ·refine aD ?_ ?_
       ·intro wD E sD;refine a7 dw G G I3 q0 G G ?_;exact VT
       refine aD ?_ ?_
       ·intro wD E sD;refine aA (aR al G G G (cp sD VR) G ?_);exact VT
       refine aD ?_ ?_
       ·intro wD E sD;refine ab G G ?_;exact VT
       refine aD ?_ ?_
       ·intro wD E sD;refine aA ?_;refine cD an fE G G G (oY.le sD.le) ck hV (λui ai GC IX=>?_);obtain rfl:(d,s)=ai:=cY (aG (GC.symm.trans rfl));exact ah8
       refine aD ?_ ?_
       ·intro wD E sD;intro v3 vm;refine aw (A:=RT.fo) (B:=RT.int .i64) bm G G I3 q0 (Sk) G G q0 (show dp (RT.fo) M2 wD v3 (d,s)from vm) ck (λuf vJ=>?_);exact a73
       refine aD ?_ ?_
       ·intro wD E sD;intro v4 qS;refine bX al G G (show dp (RT.int .i64) M2 wD v4 d from qS) ck (λlY=>?_);exact VT
       refine aD ?_ ?_
       ·intro wD E sD;refine aA (aA (Rg.min2 G G G ?_));exact VT
       exact kI
      ·intro wD6 yW;refine aA (aA (aA ?_));intro aef VD;intro al5 aeg;refine aA (aA (a7 dw G G I3 q0 G G ?_));refine cA (M:=M2) I3 G G (yW.aF Ma) G G Ug (λw7 Zh s7=>?_);change w7.heap[bx]? =some (.cells #[.int .i64 (min (RB a' b' k) d),.int .i64 0,.int .i64 0] 261 (0,0))at Zh;refine ad (ay (aX G G G hV (ab G G (ad ?_))));refine⟨G,k+1,a92,?_,?_⟩
       ·first
        |exact⟨by omega,(S5.ar yW).cE s7 (λj hj=>by subst hj;exact z2),by rw[lL nK];exact Zh,(gg.le yW.le).le s7.le⟩
        |exact⟨by omega,S5,by rw[lL nK,oK];exact Ma,gg⟩
       ·show 2-(k+1)<2-k;omega
     ·have oK:lk=[]:=by
       cases lk with
       |nil=>rfl
       |cons p tl=>simp at c5
      refine aM (ay (aX G G G hV (ab G G (ad ?_))));refine⟨G,k+1,a92,?_,?_⟩
      ·first
       |exact⟨by omega,(S5.ar yW).cE s7 (λj hj=>by subst hj;exact z2),by rw[lL nK];exact Zh,(gg.le yW.le).le s7.le⟩
       |exact⟨by omega,S5,by rw[lL nK,oK];exact Ma,gg⟩
      ·show 2-(k+1)<2-k;omega
    ·refine de (aQ (T.aU ?_));obtain rfl:k=2:=by omega
     replace Ma:w5.heap[bx]? =some (.cells #[.int .i64 (iZ a' b'),.int .i64 0,.int .i64 0] 261 (0,0)):=Ma;have Zi:=S5.lt eD;refine Rg.Kp (A:=RT.Eg) (hn:=by decide) (M:=M2) (xs:=[ba,bb]) Tryz.underlying314 Uc G q0 G ⟨_,_,_,G,G,G,oS.2 G,_,_,_,G,G,G,oS.2 G,G⟩ G Zi (.inr ⟨G,G⟩) q0 (λu38 w8 Q4 s8=>?_);refine bR Tryz.underlying314 G Q4 G (ab G G (ad (bp ?_)));refine dz (σ:=Nat) (λs=>[(0,.func (.yield yl) #[] #[]),(1,.pointer (some ⟨ba,0,none⟩)),(2,.pointer (some ⟨bb,0,none⟩)),(4,.pointer (some ⟨bx,0,none⟩)),(38,u38),(39,.int .i64 2),(40,.int .i64 s)]) (λs w=>s<=2/\((RT.Eg).sl).V M2 w [ba,bb] u38/\Step M1 w1 M2 w (λj=>j=ba\/j=bb)/\w.heap[bx]? =some (.cells #[.int .i64 (iZ a' b'),.int .i64 (sw a' b' s),.int .i64 (sx a' b' s)] 261 (0,0))/\∃v0 v1,w.heap[ba]? =some (.cells #[v0] 36 (0,0))/\((RT.fo).sl).V M2 w (lK a' (iZ a' b') (decide (0<s))) v0/\w.heap[bb]? =some (.cells #[v1] 36 (0,0))/\((RT.fo).sl).V M2 w (lK b' (iZ a' b') (decide (1<s))) v1) (λs=>2-s) 0 a92 ?_ ?_
     ·exact⟨bA _,Q4,(S5.ar s8).eE a30 (λj hj=>by rcases hj with rfl|rfl;exact Ud;exact Ue),s8.aF Ma,va1,vb1,s8.aF (S5.aF NL),(L8.le S5.le).le s8.le,s8.aF (S5.aF hB1),(L9.le S5.le).le s8.le⟩
     ·rintro k w6 ⟨fC,uU,S6,Ib,v0,v1,JS,sk,JT,sz⟩;have hmy:=Jk a' b' k;refine T.aU (cH G G G (ad (aQ ?_)));refine bH G (λc9=>?_) (λc9=>?_)
      ·refine aM (aQ (bp (T.aU ?_)));obtain⟨pk,lk,vk,hpk,nK,Q5,IY,hkM,hkN,Vu,lA⟩:=CV (show k<2 by omega) fB hxa On MD yF JS sk JT sz;have hl3:([ba,bb]:List Nat).length=2:=rfl;refine cD Tryz.underlying314 Uc G G G (uU) ck a14 (λOe FU Ax zZ=>?_);obtain rfl:pk=FU:=cY (aG (Ax.symm.trans (by rw[av];exact hpk)));refine bV Tryz.underlying313 G G G G G zZ ck (λv10 tY=>?_);obtain rfl:=oS.1 tY;refine Rg.a8 G G (aQ ?_);by_cases vZ:((lk.length:Nat):Int)>0
       ·obtain⟨⟨d,s⟩,tl,rfl⟩:∃p tl,lk=p::tl:=by
         cases lk with
         |nil=>simp at vZ
         |cons p tl=>exact⟨p,tl,rfl⟩
        apply T.draw (M:=M2) mixed [cy.eq _,cy.eq _,cy.eq vk,cy.eq _,cy.eq _,cy.eq (.bool true),cy.eq _,cy.eq _,cy.eq vk,cy.ptr (RT.fo) (d,s),cy.ptr (RT.int .i64) d,cy.eq (.int .i64 d),cy.eq _,cy.eq (.int .i64 (iZ a' b')),cy.eq _,cy.eq _]
        ·rfl
        ·refine aL ?_ ?_
         ·intro wD E sD;refine ab G G ?_;exact VT
         refine aL ?_ ?_
         ·intro wD E sD;refine aA (bu G ⟨_,G⟩ G ?_);exact VT
         refine aL ?_ ?_
         ·intro wD E sD;refine aA (aR an G G G (cp sD VR) G ?_);exact VT
         refine aL ?_ ?_
         ·intro wD E sD;refine aA (bR an G (IY.le sD.le) G ?_);exact VT
         refine aL ?_ ?_
         ·intro wD E sD;refine aA (fR G G G ?_);exact VT
         refine aL ?_ ?_
         ·intro wD E sD;refine aA (ab G G ?_);refine ad ⟨G,G,_,G,?_,bg⟩;exact congrArg Value.bool (decide_eq_true vZ)
         refine aL ?_ ?_
         ·intro wD E sD;refine aA (ae G G (ab G G ?_));exact VT
         refine aL ?_ ?_
         ·intro wD E sD;refine aA (aA (ae G G (bu G ⟨_,G⟩ G ?_)));exact VT
         refine aL ?_ ?_
         ·intro wD E sD;refine aA (aA (ae G G (aR an G G G (cp sD VR) G ?_)));exact VT
         refine aL ?_ ?_
         ·intro wD E sD;refine aA (aA (ae G G ?_));refine cD an fE G G G (IY.le sD.le) ck hV (λui ai GC IX=>?_);obtain rfl:(d,s)=ai:=cY (aG (GC.symm.trans rfl));exact ah8
         refine aL ?_ ?_
         ·intro wD E sD;intro v9 K4;refine aA (ae G G ?_);refine aw (A:=RT.fo) (B:=RT.int .i64) bm G G I3 q0 (Sk) G G q0 (show dp (RT.fo) M2 wD v9 (d,s)from K4) ck (λuf vJ=>?_);exact a73
         refine aL ?_ ?_
         ·intro wD E sD;intro v10 tY;refine aA (ae G G ?_);refine bX al G G (show dp (RT.int .i64) M2 wD v10 d from tY) ck (λlY=>?_);exact VT
         refine aL ?_ ?_
         ·intro wD E sD;refine aA (ae G G (a7 dw G G I3 q0 G G ?_));exact VT
         refine aL ?_ ?_
         ·intro wD E sD;refine aA (aA (ae G G (aR al G G G (cp sD VR) G ?_)));exact VT
         refine aL ?_ ?_
         ·intro wD E sD;refine aA (aA (aA (ae G G (je G G G ?_))));exact VT
         refine aL ?_ ?_
         ·intro wD E sD;refine aA (aA (aN G G G ?_));exact VT
         exact wL
        ·intro FI eg;refine aA (aA (aA (aA (aA (aA (aA (aA (aA ?_))))))));intro aei Zj;intro PG yU;refine aA (aA (aA (aA (aA ?_))));have DN:=eg.aF Ib;have GD:=eg.aF Q5;refine bH G (λKR=>?_) (λKR=>?_)
         ·refine T.aU (a7 dw G G I3 q0 G G (aR al G G G DN G (aZ (v':= .int .i64 (sw a' b' k)) G (aX G G G hV (a7 dw G G I3 q0 G G ?_)))));refine cA (M:=M2) I3 G G DN G G Ug (λN6 Ic nV=>?_);change N6.heap[bx]? =some (.cells #[.int .i64 (iZ a' b'),.int .i64 (sw a' b' k+1),.int .i64 (sx a' b' k)] 261 (0,0))at Ic;have Q6:=nV.bY GD Vu;have GF:=(IY.le eg.le).le nV.le;refine ad (aQ ?_);apply T.sN (M:=M2) mixed [] [cy.eq _,cy.eq (.int .i64 (sx a' b' k)),cy.eq _,cy.eq _,cy.eq vk,cy.ptr (RT.fo) (d,s),cy.ptr (RT.int .i64) s,cy.eq (.int .i64 s),cy.eq _] 9
          ·rfl
          ·rfl
          ·rfl
          ·rfl
          ·rfl
          ·exact a90
          ·exact sh
          ·refine aD ?_ ?_
           ·intro wD E sD;refine a7 dw G G I3 q0 G G ?_;exact VT
           refine aD ?_ ?_
           ·intro wD E sD;refine aA (aR al G G G (cp sD VR) G ?_);exact VT
           refine aD ?_ ?_
           ·intro wD E sD;refine ab G G ?_;exact VT
           refine aD ?_ ?_
           ·intro wD E sD;refine aA (bu G ⟨_,G⟩ G ?_);exact VT
           refine aD ?_ ?_
           ·intro wD E sD;refine aA (aR an G G G (cp sD VR) G ?_);exact VT
           refine aD ?_ ?_
           ·intro wD E sD;refine aA ?_;refine cD an fE G G G (GF.le sD.le) ck hV (λui ai GC IX=>?_);obtain rfl:(d,s)=ai:=cY (aG (GC.symm.trans rfl));exact ah8
           refine aD ?_ ?_
           ·intro wD E sD;intro v5 qT;refine aw (A:=RT.fo) (B:=RT.int .i64) bm G G I3 q0 (Jj) G G q0 (show dp (RT.fo) M2 wD v5 (d,s)from qT) ck (λuf vJ=>?_);exact a73
           refine aD ?_ ?_
           ·intro wD E sD;intro v6 qE;refine bX al G G (show dp (RT.int .i64) M2 wD v6 s from qE) ck (λlY=>?_);exact VT
           refine aD ?_ ?_
           ·intro wD E sD;refine aA (aA (Rg.zc G G G ?_));exact VT
           exact kI
          ·intro Og jy;refine aA (aA (aA (aA (aA ?_))));intro JB xu;intro U9 Ao;refine aA (aA (a7 dw G G I3 q0 G G ?_));have PI:=jy.aF Ic;refine cA (M:=M2) I3 G G PI G G Ug (λOy Q7 jZ=>?_);change Oy.heap[bx]? =some (.cells #[.int .i64 (iZ a' b'),.int .i64 (sw a' b' k+1),.int .i64 (IntKind.i64.wrap (sx a' b' k+s))] 261 (0,0))at Q7;have GG:=jZ.bY (jy.aF Q6) Vu;have Q8:=(GF.le jy.le).le jZ.le;refine ad (ay (ab G G (ab G G (bu G ⟨_,G⟩ G (aR an G G G GG G (aZ (v':=vk) G ?_))))));refine Rg.pB (A:=RT.fo) (hn:=by decide) an fE rfl rfl rfl Q8 (by simp only[cR];omega) (λMG tZ=>?_);replace tZ:((RT.fo).sl).V M2 Oy tl MG:=tZ;refine bu G ⟨_,G⟩ G ?_;refine cA (M:=M2) MH G G GG G (jX tZ G G) hkM (λHE wa pS=>?_);change HE.heap[pk]? =some (.cells #[MG] 36 (0,0))at wa;have IZ:=pS.bY Q7 (λh=>Vu h.symm);have uh:hit ((d,s)::tl) (iZ a' b')=true:=tI KR;have Zk:eW ((d,s)::tl) (iZ a' b')=tl:=by unfold eW;rw[if_pos uh];rfl
           have SK:=((((S6.ar eg).cE nV (λj hj=>by subst hj;omega)).ar jy).cE jZ (λj hj=>by subst hj;omega)).trans pS (λj _ hj=>by subst hj;exact hkN);have Md:=aW (aW (aW (aW eg.le nV.le) jy.le) jZ.le) pS.le;refine ad (ay (aX G G G hV (ab G G (ad ?_))));refine⟨G,k+1,a92,?_,?_⟩
           ·first
            |exact⟨by omega,uU.le Md,SK,by rw[ji nK,jj nK];unfold mV lW;rw[if_pos uh,if_pos uh];exact IZ,lA HE MG (λq o h1 h2 h3=>pS.bY (jZ.bY (jy.aF (nV.bY (eg.aF h3) h2)) h2) h1) (λl v h=>h.le Md) wa af8⟩
            |exact⟨by omega,uU.le eg.le,S6.ar eg,by rw[ji nK,jj nK];unfold mV lW;rw[if_neg ac5,if_neg ac5];exact eg.aF Ib,lA _ vk (λq o h1 h2 h3=>eg.aF h3) (λl v h=>h.le eg.le) (eg.aF Q5) a62⟩
           ·show 2-(k+1)<2-k;omega
         ·have BX:hit ((d,s)::tl) (iZ a' b')=false:=decide_eq_false KR;refine aM (ay (aX G G G hV (ab G G (ad ?_))));refine⟨G,k+1,a92,?_,?_⟩
          ·first
           |exact⟨by omega,uU.le Md,SK,by rw[ji nK,jj nK];unfold mV lW;rw[if_pos uh,if_pos uh];exact IZ,lA HE MG (λq o h1 h2 h3=>pS.bY (jZ.bY (jy.aF (nV.bY (eg.aF h3) h2)) h2) h1) (λl v h=>h.le Md) wa af8⟩
           |exact⟨by omega,uU.le eg.le,S6.ar eg,by rw[ji nK,jj nK];unfold mV lW;rw[if_neg ac5,if_neg ac5];exact eg.aF Ib,lA _ vk (λq o h1 h2 h3=>eg.aF h3) (λl v h=>h.le eg.le) (eg.aF Q5) a62⟩
          ·show 2-(k+1)<2-k;omega
       ·have BX:hit lk (iZ a' b')=false:=by
         cases lk with
         |nil=>rfl
         |cons p tl=>simp at vZ
        apply T.draw (M:=M2) mixed [cy.eq _,cy.eq _,cy.eq vk,cy.eq _,cy.eq _,cy.eq (.bool false),cy.eq undef,cy.eq undef,cy.eq undef,cy.eq undef,cy.eq undef,cy.eq undef,cy.eq undef,cy.eq undef,cy.eq undef,cy.eq _]
        ·rfl
        ·refine aL ?_ ?_
         ·intro wD E sD;refine ab G G ?_;exact VT
         refine aL ?_ ?_
         ·intro wD E sD;refine aA (bu G ⟨_,G⟩ G ?_);exact VT
         refine aL ?_ ?_
         ·intro wD E sD;refine aA (aR an G G G (cp sD VR) G ?_);exact VT
         refine aL ?_ ?_
         ·intro wD E sD;refine aA (bR an G (IY.le sD.le) G ?_);exact VT
         refine aL ?_ ?_
         ·intro wD E sD;refine aA (fR G G G ?_);exact VT
         refine aL ?_ ?_
         ·intro wD E sD;refine aA (ab G G ?_);refine ad ⟨G,G,_,G,?_,bg⟩;exact congrArg Value.bool (decide_eq_false vZ)
         refine aL ?_ ?_
         ·intro wD E sD;refine aA ?_;exact a13
         refine aL ?_ ?_
         ·intro wD E sD;refine aA (aA ?_);exact a13
         refine aL ?_ ?_
         ·intro wD E sD;refine aA (aA ?_);exact a13
         refine aL ?_ ?_
         ·intro wD E sD;refine aA (aA ?_);exact a13
         refine aL ?_ ?_
         ·intro wD E sD;refine aA (aA ?_);exact a13
         refine aL ?_ ?_
         ·intro wD E sD;refine aA (aA ?_);exact a13
         refine aL ?_ ?_
         ·intro wD E sD;refine aA ?_;exact a13
         refine aL ?_ ?_
         ·intro wD E sD;refine aA (aA ?_);exact a13
         refine aL ?_ ?_
         ·intro wD E sD;refine aA (aA (aA ?_));exact a13
         refine aL ?_ ?_
         ·intro wD E sD;refine aA (aA (au G G G ?_));exact VT
         exact wL
        ·intro FI eg;refine aA (aA (aA (aA (aA (aA (aA (aA (aA (aA (aA (aA ?_)))))))))));refine aA (aA (aA (aA ?_)));have DN:=eg.aF Ib;have GD:=eg.aF Q5;refine fQ G (aM (ay (aX G G G hV (ab G G (ad ?_)))));refine⟨G,k+1,a92,?_,?_⟩
         ·first
          |exact⟨by omega,uU.le Md,SK,by rw[ji nK,jj nK];unfold mV lW;rw[if_pos uh,if_pos uh];exact IZ,lA HE MG (λq o h1 h2 h3=>pS.bY (jZ.bY (jy.aF (nV.bY (eg.aF h3) h2)) h2) h1) (λl v h=>h.le Md) wa af8⟩
          |exact⟨by omega,uU.le eg.le,S6.ar eg,by rw[ji nK,jj nK];unfold mV lW;rw[if_neg ac5,if_neg ac5];exact eg.aF Ib,lA _ vk (λq o h1 h2 h3=>eg.aF h3) (λl v h=>h.le eg.le) (eg.aF Q5) a62⟩
         ·show 2-(k+1)<2-k;omega
      ·refine de (T.aU (ab G G ?_));obtain rfl:k=2:=by omega
       refine eM (vs:=[.int .i64 (iZ a' b'),.int .i64 (sw a' b' 2),.int .i64 (sx a' b' 2)]) dw G A0 G G G Ib ?_;have hJ7:=lF _ _ _ _ _ _ hJ S6;refine Rg.yield G (vs:=[.agg #[.int .i64 (iZ a' b'),.int .i64 (sw a' b' 2),.int .i64 (sx a' b' 2)]]) G G (hy a' b' M2 _ hJ7 RN RO Q1) (λr9 w9 h9=>?_);obtain⟨c,rfl,hc5,TZ⟩:=h9;refine jd G G (aZ (v':= .bool (decide (¬c=true))) (by simp) (ad ?_));refine bH G (λG2=>?_) (λG2=>?_)
       ·refine aS ?_;exact Ei G (.inr (TZ (by simpa using G2)))
       ·obtain⟨M9,N9,hJ9,s9,hN9⟩:=hc5 (cF.1 G2);refine aM ?_;refine⟨G,(eW a' (iZ a' b'),eW b' (iZ a' b')),a11,?_,?_⟩
        ·exact⟨RN.rest _,RO.rest _,v0,v1,M9,hJ9,s9.bY JS (λh=>(hN9 _ h).1 rfl),s9.bY JT (λh=>(hN9 _ h).2 rfl),sk.le s9.le,sz.le s9.le⟩
        ·exact rT RN RO Q1
  ·refine ae G G (aR an G G G VR G (ae G G (bR an G L9 G (ae G G (fR G G G (au G G G (ad ?_)))))));refine bH G (λc0=>?_) (λc0=>?_)
   ·have Q1:a'≠[]\/b'≠[]:= .inr (by intro h;rw[h]at c0;simp at c0);refine aM (bp (T.aU (cx (places:=[(0,1),(1,1),(2,1)]) dw A0 aec rfl ⟨_,_,rfl,rfl,rfl⟩ (out:=[_,.int .i64 0,.int .i64 0]) ⟨0,[_],rfl,rfl,by simp[Value.cells],rfl⟩ ?_)));refine eu M1 A0 G (λbx w2 z2 z2' hX0 s2=>?_);obtain⟨M2,yJ⟩:∃M2,M2=ins M1 bx:=⟨_,rfl⟩;have Ug:M2 bx:=by rw[yJ];exact .inl G
    have MD:M2 ba:=by rw[yJ];exact .inr Ud
    have yF:M2 bb:=by rw[yJ];exact .inr Ue
    have hxa:bx≠ba:=by have:=ah NL;omega
    have On:bx≠bb:=by have:=ah hB1;omega
    rw[<-yJ]at s2;refine dm (M:=M2) A0 G G al4 rfl rfl hX0 Ug (λw3 hX3 s3=>?_);change w3.heap[bx]? =some (.cells #[.int .i64 2147483648,.int .i64 0,.int .i64 0] 261 (0,0))at hX3;have S3:=s2.cE s3 (λj hj=>by subst hj;exact z2);have hA3:=S3.aF NL;have hB3:=S3.aF hB1;have Q2:=L8.le S3.le;have Q3:=L9.le S3.le;have PC:=S3.lt eD;refine ad (aQ (T.aU (aR an G G G VR G (aR an G G G VR G ?_))));refine Rg.Kp (A:=(RT.fo).sl) (hn:=by decide) (M:=M2) (xs:=[a',b']) Tryz.underlying312 MH G q0 G ⟨_,_,_,G,G,G,Q2,_,_,_,G,G,G,Q3,G⟩ G PC (.inr ⟨G,G⟩) q0 (λu20 w4 IW s4=>?_);refine bR Tryz.underlying312 G IW G (ab G G (ad (bp ?_)));refine dz (σ:=Nat) (λs=>[(0,.func (.yield yl) #[] #[]),(1,.pointer (some ⟨ba,0,none⟩)),(2,.pointer (some ⟨bb,0,none⟩)),(4,.pointer (some ⟨bx,0,none⟩)),(20,u20),(21,.int .i64 2),(22,.int .i64 s)]) (λs w=>s<=2/\Step M1 w1 M2 w aH/\w.heap[bx]? =some (.cells #[.int .i64 (RB a' b' s),.int .i64 0,.int .i64 0] 261 (0,0))/\(((RT.fo).sl).sl).V M2 w [a',b'] u20) (λs=>2-s) 0 a92 ?_ ?_
    ·exact⟨bA _,S3.ar s4,s4.aF hX3,IW⟩
    ·rintro k w5 ⟨fC,S5,Ma,gg⟩;refine T.aU (cH G G G (ad (aQ ?_)));refine bH G (λc3=>?_) (λc3=>?_)
     ·refine aM (aQ (bp (T.aU ?_)))
      obtain⟨lk,nK⟩:∃x,[a',b'][k]? =some x:=by
       have Zg:k<[a',b'].length:=by simp;omega
       exact⟨_,aq Zg⟩
      have GY:([a',b']:List (List Fo)).length=2:=rfl;refine cD Tryz.underlying312 MH G G G (gg) ck a14 (λK2 H8 Aw sV=>?_);obtain rfl:lk=H8:=cY (aG (Aw.symm.trans (by rw[av];exact nK)));refine bV an G G G G G sV ck (λHB oY=>?_);replace oY:((RT.fo).sl).V M2 _ lk HB:=oY;refine Rg.a8 G G (T.aU (ab G G (bR an G oY G (fR G G G (ad ?_)))));refine bH G (λc5=>?_) (λc5=>?_)
      ·obtain⟨⟨d,s⟩,tl,rfl⟩:∃p tl,lk=p::tl:=by
        cases lk with
        |nil=>simp at c5
        |cons p tl=>exact⟨p,tl,rfl⟩
       apply T.sN (M:=M2) mixed [] [cy.eq _,cy.eq (.int .i64 (RB a' b' k)),cy.eq _,cy.ptr (RT.fo) (d,s),cy.ptr (RT.int .i64) d,cy.eq (.int .i64 d),cy.eq _] 7
       ·rfl
       ·rfl
       ·rfl
       ·rfl
       ·rfl
       ·exact a90
       ·exact sh
       ·refine aD ?_ ?_
        ·intro wD E sD;refine a7 dw G G I3 q0 G G ?_;exact VT
        refine aD ?_ ?_
        ·intro wD E sD;refine aA (aR al G G G (cp sD VR) G ?_);exact VT
        refine aD ?_ ?_
        ·intro wD E sD;refine ab G G ?_;exact VT
        refine aD ?_ ?_
        ·intro wD E sD;refine aA ?_;refine cD an fE G G G (oY.le sD.le) ck hV (λui ai GC IX=>?_);obtain rfl:(d,s)=ai:=cY (aG (GC.symm.trans rfl));exact ah8
        refine aD ?_ ?_
        ·intro wD E sD;intro v3 vm;refine aw (A:=RT.fo) (B:=RT.int .i64) bm G G I3 q0 (Sk) G G q0 (show dp (RT.fo) M2 wD v3 (d,s)from vm) ck (λuf vJ=>?_);exact a73
        refine aD ?_ ?_
        ·intro wD E sD;intro v4 qS;refine bX al G G (show dp (RT.int .i64) M2 wD v4 d from qS) ck (λlY=>?_);exact VT
        refine aD ?_ ?_
        ·intro wD E sD;refine aA (aA (Rg.min2 G G G ?_));exact VT
        exact kI
       ·intro wD6 yW;refine aA (aA (aA ?_));intro aef VD;intro al5 aeg;refine aA (aA (a7 dw G G I3 q0 G G ?_));refine cA (M:=M2) I3 G G (yW.aF Ma) G G Ug (λw7 Zh s7=>?_);change w7.heap[bx]? =some (.cells #[.int .i64 (min (RB a' b' k) d),.int .i64 0,.int .i64 0] 261 (0,0))at Zh;refine ad (ay (aX G G G hV (ab G G (ad ?_))));refine⟨G,k+1,a92,?_,?_⟩
        ·first
         |exact⟨by omega,(S5.ar yW).cE s7 (λj hj=>by subst hj;exact z2),by rw[lL nK];exact Zh,(gg.le yW.le).le s7.le⟩
         |exact⟨by omega,S5,by rw[lL nK,oK];exact Ma,gg⟩
        ·show 2-(k+1)<2-k;omega
      ·have oK:lk=[]:=by
        cases lk with
        |nil=>rfl
        |cons p tl=>simp at c5
       refine aM (ay (aX G G G hV (ab G G (ad ?_))));refine⟨G,k+1,a92,?_,?_⟩
       ·first
        |exact⟨by omega,(S5.ar yW).cE s7 (λj hj=>by subst hj;exact z2),by rw[lL nK];exact Zh,(gg.le yW.le).le s7.le⟩
        |exact⟨by omega,S5,by rw[lL nK,oK];exact Ma,gg⟩
       ·show 2-(k+1)<2-k;omega
     ·refine de (aQ (T.aU ?_));obtain rfl:k=2:=by omega
      replace Ma:w5.heap[bx]? =some (.cells #[.int .i64 (iZ a' b'),.int .i64 0,.int .i64 0] 261 (0,0)):=Ma;have Zi:=S5.lt eD;refine Rg.Kp (A:=RT.Eg) (hn:=by decide) (M:=M2) (xs:=[ba,bb]) Tryz.underlying314 Uc G q0 G ⟨_,_,_,G,G,G,oS.2 G,_,_,_,G,G,G,oS.2 G,G⟩ G Zi (.inr ⟨G,G⟩) q0 (λu38 w8 Q4 s8=>?_);refine bR Tryz.underlying314 G Q4 G (ab G G (ad (bp ?_)));refine dz (σ:=Nat) (λs=>[(0,.func (.yield yl) #[] #[]),(1,.pointer (some ⟨ba,0,none⟩)),(2,.pointer (some ⟨bb,0,none⟩)),(4,.pointer (some ⟨bx,0,none⟩)),(38,u38),(39,.int .i64 2),(40,.int .i64 s)]) (λs w=>s<=2/\((RT.Eg).sl).V M2 w [ba,bb] u38/\Step M1 w1 M2 w (λj=>j=ba\/j=bb)/\w.heap[bx]? =some (.cells #[.int .i64 (iZ a' b'),.int .i64 (sw a' b' s),.int .i64 (sx a' b' s)] 261 (0,0))/\∃v0 v1,w.heap[ba]? =some (.cells #[v0] 36 (0,0))/\((RT.fo).sl).V M2 w (lK a' (iZ a' b') (decide (0<s))) v0/\w.heap[bb]? =some (.cells #[v1] 36 (0,0))/\((RT.fo).sl).V M2 w (lK b' (iZ a' b') (decide (1<s))) v1) (λs=>2-s) 0 a92 ?_ ?_
      ·exact⟨bA _,Q4,(S5.ar s8).eE a30 (λj hj=>by rcases hj with rfl|rfl;exact Ud;exact Ue),s8.aF Ma,va1,vb1,s8.aF (S5.aF NL),(L8.le S5.le).le s8.le,s8.aF (S5.aF hB1),(L9.le S5.le).le s8.le⟩
      ·rintro k w6 ⟨fC,uU,S6,Ib,v0,v1,JS,sk,JT,sz⟩;have hmy:=Jk a' b' k;refine T.aU (cH G G G (ad (aQ ?_)));refine bH G (λc9=>?_) (λc9=>?_)
       ·refine aM (aQ (bp (T.aU ?_)));obtain⟨pk,lk,vk,hpk,nK,Q5,IY,hkM,hkN,Vu,lA⟩:=CV (show k<2 by omega) fB hxa On MD yF JS sk JT sz;have hl3:([ba,bb]:List Nat).length=2:=rfl;refine cD Tryz.underlying314 Uc G G G (uU) ck a14 (λOe FU Ax zZ=>?_);obtain rfl:pk=FU:=cY (aG (Ax.symm.trans (by rw[av];exact hpk)));refine bV Tryz.underlying313 G G G G G zZ ck (λv10 tY=>?_);obtain rfl:=oS.1 tY;refine Rg.a8 G G (aQ ?_);by_cases vZ:((lk.length:Nat):Int)>0
        ·obtain⟨⟨d,s⟩,tl,rfl⟩:∃p tl,lk=p::tl:=by
          cases lk with
          |nil=>simp at vZ
          |cons p tl=>exact⟨p,tl,rfl⟩
         apply T.draw (M:=M2) mixed [cy.eq _,cy.eq _,cy.eq vk,cy.eq _,cy.eq _,cy.eq (.bool true),cy.eq _,cy.eq _,cy.eq vk,cy.ptr (RT.fo) (d,s),cy.ptr (RT.int .i64) d,cy.eq (.int .i64 d),cy.eq _,cy.eq (.int .i64 (iZ a' b')),cy.eq _,cy.eq _]
         ·rfl
         ·refine aL ?_ ?_
          ·intro wD E sD;refine ab G G ?_;exact VT
          refine aL ?_ ?_
          ·intro wD E sD;refine aA (bu G ⟨_,G⟩ G ?_);exact VT
          refine aL ?_ ?_
          ·intro wD E sD;refine aA (aR an G G G (cp sD VR) G ?_);exact VT
          refine aL ?_ ?_
          ·intro wD E sD;refine aA (bR an G (IY.le sD.le) G ?_);exact VT
          refine aL ?_ ?_
          ·intro wD E sD;refine aA (fR G G G ?_);exact VT
          refine aL ?_ ?_
          ·intro wD E sD;refine aA (ab G G ?_);refine ad ⟨G,G,_,G,?_,bg⟩;exact congrArg Value.bool (decide_eq_true vZ)
          refine aL ?_ ?_
          ·intro wD E sD;refine aA (ae G G (ab G G ?_));exact VT
          refine aL ?_ ?_
          ·intro wD E sD;refine aA (aA (ae G G (bu G ⟨_,G⟩ G ?_)));exact VT
          refine aL ?_ ?_
          ·intro wD E sD;refine aA (aA (ae G G (aR an G G G (cp sD VR) G ?_)));exact VT
          refine aL ?_ ?_
          ·intro wD E sD;refine aA (aA (ae G G ?_));refine cD an fE G G G (IY.le sD.le) ck hV (λui ai GC IX=>?_);obtain rfl:(d,s)=ai:=cY (aG (GC.symm.trans rfl));exact ah8
          refine aL ?_ ?_
          ·intro wD E sD;intro v9 K4;refine aA (ae G G ?_);refine aw (A:=RT.fo) (B:=RT.int .i64) bm G G I3 q0 (Sk) G G q0 (show dp (RT.fo) M2 wD v9 (d,s)from K4) ck (λuf vJ=>?_);exact a73
          refine aL ?_ ?_
          ·intro wD E sD;intro v10 tY;refine aA (ae G G ?_);refine bX al G G (show dp (RT.int .i64) M2 wD v10 d from tY) ck (λlY=>?_);exact VT
          refine aL ?_ ?_
          ·intro wD E sD;refine aA (ae G G (a7 dw G G I3 q0 G G ?_));exact VT
          refine aL ?_ ?_
          ·intro wD E sD;refine aA (aA (ae G G (aR al G G G (cp sD VR) G ?_)));exact VT
          refine aL ?_ ?_
          ·intro wD E sD;refine aA (aA (aA (ae G G (je G G G ?_))));exact VT
          refine aL ?_ ?_
          ·intro wD E sD;refine aA (aA (aN G G G ?_));exact VT
          exact wL
         ·intro FI eg;refine aA (aA (aA (aA (aA (aA (aA (aA (aA ?_))))))));intro aei Zj;intro PG yU;refine aA (aA (aA (aA (aA ?_))));have DN:=eg.aF Ib;have GD:=eg.aF Q5;refine bH G (λKR=>?_) (λKR=>?_)
          ·refine T.aU (a7 dw G G I3 q0 G G (aR al G G G DN G (aZ (v':= .int .i64 (sw a' b' k)) G (aX G G G hV (a7 dw G G I3 q0 G G ?_)))));refine cA (M:=M2) I3 G G DN G G Ug (λN6 Ic nV=>?_);change N6.heap[bx]? =some (.cells #[.int .i64 (iZ a' b'),.int .i64 (sw a' b' k+1),.int .i64 (sx a' b' k)] 261 (0,0))at Ic;have Q6:=nV.bY GD Vu;have GF:=(IY.le eg.le).le nV.le;refine ad (aQ ?_);apply T.sN (M:=M2) mixed [] [cy.eq _,cy.eq (.int .i64 (sx a' b' k)),cy.eq _,cy.eq _,cy.eq vk,cy.ptr (RT.fo) (d,s),cy.ptr (RT.int .i64) s,cy.eq (.int .i64 s),cy.eq _] 9
           ·rfl
           ·rfl
           ·rfl
           ·rfl
           ·rfl
           ·exact a90
           ·exact sh
           ·refine aD ?_ ?_
            ·intro wD E sD;refine a7 dw G G I3 q0 G G ?_;exact VT
            refine aD ?_ ?_
            ·intro wD E sD;refine aA (aR al G G G (cp sD VR) G ?_);exact VT
            refine aD ?_ ?_
            ·intro wD E sD;refine ab G G ?_;exact VT
            refine aD ?_ ?_
            ·intro wD E sD;refine aA (bu G ⟨_,G⟩ G ?_);exact VT
            refine aD ?_ ?_
            ·intro wD E sD;refine aA (aR an G G G (cp sD VR) G ?_);exact VT
            refine aD ?_ ?_
            ·intro wD E sD;refine aA ?_;refine cD an fE G G G (GF.le sD.le) ck hV (λui ai GC IX=>?_);obtain rfl:(d,s)=ai:=cY (aG (GC.symm.trans rfl));exact ah8
            refine aD ?_ ?_
            ·intro wD E sD;intro v5 qT;refine aw (A:=RT.fo) (B:=RT.int .i64) bm G G I3 q0 (Jj) G G q0 (show dp (RT.fo) M2 wD v5 (d,s)from qT) ck (λuf vJ=>?_);exact a73
            refine aD ?_ ?_
            ·intro wD E sD;intro v6 qE;refine bX al G G (show dp (RT.int .i64) M2 wD v6 s from qE) ck (λlY=>?_);exact VT
            refine aD ?_ ?_
            ·intro wD E sD;refine aA (aA (Rg.zc G G G ?_));exact VT
            exact kI
           ·intro Og jy;refine aA (aA (aA (aA (aA ?_))));intro JB xu;intro U9 Ao;refine aA (aA (a7 dw G G I3 q0 G G ?_));have PI:=jy.aF Ic;refine cA (M:=M2) I3 G G PI G G Ug (λOy Q7 jZ=>?_);change Oy.heap[bx]? =some (.cells #[.int .i64 (iZ a' b'),.int .i64 (sw a' b' k+1),.int .i64 (IntKind.i64.wrap (sx a' b' k+s))] 261 (0,0))at Q7;have GG:=jZ.bY (jy.aF Q6) Vu;have Q8:=(GF.le jy.le).le jZ.le;refine ad (ay (ab G G (ab G G (bu G ⟨_,G⟩ G (aR an G G G GG G (aZ (v':=vk) G ?_))))));refine Rg.pB (A:=RT.fo) (hn:=by decide) an fE rfl rfl rfl Q8 (by simp only[cR];omega) (λMG tZ=>?_);replace tZ:((RT.fo).sl).V M2 Oy tl MG:=tZ;refine bu G ⟨_,G⟩ G ?_;refine cA (M:=M2) MH G G GG G (jX tZ G G) hkM (λHE wa pS=>?_);change HE.heap[pk]? =some (.cells #[MG] 36 (0,0))at wa;have IZ:=pS.bY Q7 (λh=>Vu h.symm);have uh:hit ((d,s)::tl) (iZ a' b')=true:=tI KR;have Zk:eW ((d,s)::tl) (iZ a' b')=tl:=by unfold eW;rw[if_pos uh];rfl
            have SK:=((((S6.ar eg).cE nV (λj hj=>by subst hj;omega)).ar jy).cE jZ (λj hj=>by subst hj;omega)).trans pS (λj _ hj=>by subst hj;exact hkN);have Md:=aW (aW (aW (aW eg.le nV.le) jy.le) jZ.le) pS.le;refine ad (ay (aX G G G hV (ab G G (ad ?_))));refine⟨G,k+1,a92,?_,?_⟩
            ·first
             |exact⟨by omega,uU.le Md,SK,by rw[ji nK,jj nK];unfold mV lW;rw[if_pos uh,if_pos uh];exact IZ,lA HE MG (λq o h1 h2 h3=>pS.bY (jZ.bY (jy.aF (nV.bY (eg.aF h3) h2)) h2) h1) (λl v h=>h.le Md) wa af8⟩
             |exact⟨by omega,uU.le eg.le,S6.ar eg,by rw[ji nK,jj nK];unfold mV lW;rw[if_neg ac5,if_neg ac5];exact eg.aF Ib,lA _ vk (λq o h1 h2 h3=>eg.aF h3) (λl v h=>h.le eg.le) (eg.aF Q5) a62⟩
            ·show 2-(k+1)<2-k;omega
          ·have BX:hit ((d,s)::tl) (iZ a' b')=false:=decide_eq_false KR;refine aM (ay (aX G G G hV (ab G G (ad ?_))));refine⟨G,k+1,a92,?_,?_⟩
           ·first
            |exact⟨by omega,uU.le Md,SK,by rw[ji nK,jj nK];unfold mV lW;rw[if_pos uh,if_pos uh];exact IZ,lA HE MG (λq o h1 h2 h3=>pS.bY (jZ.bY (jy.aF (nV.bY (eg.aF h3) h2)) h2) h1) (λl v h=>h.le Md) wa af8⟩
            |exact⟨by omega,uU.le eg.le,S6.ar eg,by rw[ji nK,jj nK];unfold mV lW;rw[if_neg ac5,if_neg ac5];exact eg.aF Ib,lA _ vk (λq o h1 h2 h3=>eg.aF h3) (λl v h=>h.le eg.le) (eg.aF Q5) a62⟩
           ·show 2-(k+1)<2-k;omega
        ·have BX:hit lk (iZ a' b')=false:=by
          cases lk with
          |nil=>rfl
          |cons p tl=>simp at vZ
         apply T.draw (M:=M2) mixed [cy.eq _,cy.eq _,cy.eq vk,cy.eq _,cy.eq _,cy.eq (.bool false),cy.eq undef,cy.eq undef,cy.eq undef,cy.eq undef,cy.eq undef,cy.eq undef,cy.eq undef,cy.eq undef,cy.eq undef,cy.eq _]
         ·rfl
         ·refine aL ?_ ?_
          ·intro wD E sD;refine ab G G ?_;exact VT
          refine aL ?_ ?_
          ·intro wD E sD;refine aA (bu G ⟨_,G⟩ G ?_);exact VT
          refine aL ?_ ?_
          ·intro wD E sD;refine aA (aR an G G G (cp sD VR) G ?_);exact VT
          refine aL ?_ ?_
          ·intro wD E sD;refine aA (bR an G (IY.le sD.le) G ?_);exact VT
          refine aL ?_ ?_
          ·intro wD E sD;refine aA (fR G G G ?_);exact VT
          refine aL ?_ ?_
          ·intro wD E sD;refine aA (ab G G ?_);refine ad ⟨G,G,_,G,?_,bg⟩;exact congrArg Value.bool (decide_eq_false vZ)
          refine aL ?_ ?_
          ·intro wD E sD;refine aA ?_;exact a13
          refine aL ?_ ?_
          ·intro wD E sD;refine aA (aA ?_);exact a13
          refine aL ?_ ?_
          ·intro wD E sD;refine aA (aA ?_);exact a13
          refine aL ?_ ?_
          ·intro wD E sD;refine aA (aA ?_);exact a13
          refine aL ?_ ?_
          ·intro wD E sD;refine aA (aA ?_);exact a13
          refine aL ?_ ?_
          ·intro wD E sD;refine aA (aA ?_);exact a13
          refine aL ?_ ?_
          ·intro wD E sD;refine aA ?_;exact a13
          refine aL ?_ ?_
          ·intro wD E sD;refine aA (aA ?_);exact a13
          refine aL ?_ ?_
          ·intro wD E sD;refine aA (aA (aA ?_));exact a13
          refine aL ?_ ?_
          ·intro wD E sD;refine aA (aA (au G G G ?_));exact VT
          exact wL
         ·intro FI eg;refine aA (aA (aA (aA (aA (aA (aA (aA (aA (aA (aA (aA ?_)))))))))));refine aA (aA (aA (aA ?_)));have DN:=eg.aF Ib;have GD:=eg.aF Q5;refine fQ G (aM (ay (aX G G G hV (ab G G (ad ?_)))));refine⟨G,k+1,a92,?_,?_⟩
          ·first
           |exact⟨by omega,uU.le Md,SK,by rw[ji nK,jj nK];unfold mV lW;rw[if_pos uh,if_pos uh];exact IZ,lA HE MG (λq o h1 h2 h3=>pS.bY (jZ.bY (jy.aF (nV.bY (eg.aF h3) h2)) h2) h1) (λl v h=>h.le Md) wa af8⟩
           |exact⟨by omega,uU.le eg.le,S6.ar eg,by rw[ji nK,jj nK];unfold mV lW;rw[if_neg ac5,if_neg ac5];exact eg.aF Ib,lA _ vk (λq o h1 h2 h3=>eg.aF h3) (λl v h=>h.le eg.le) (eg.aF Q5) a62⟩
          ·show 2-(k+1)<2-k;omega
       ·refine de (T.aU (ab G G ?_));obtain rfl:k=2:=by omega
        refine eM (vs:=[.int .i64 (iZ a' b'),.int .i64 (sw a' b' 2),.int .i64 (sx a' b' 2)]) dw G A0 G G G Ib ?_;have hJ7:=lF _ _ _ _ _ _ hJ S6;refine Rg.yield G (vs:=[.agg #[.int .i64 (iZ a' b'),.int .i64 (sw a' b' 2),.int .i64 (sx a' b' 2)]]) G G (hy a' b' M2 _ hJ7 RN RO Q1) (λr9 w9 h9=>?_);obtain⟨c,rfl,hc5,TZ⟩:=h9;refine jd G G (aZ (v':= .bool (decide (¬c=true))) (by simp) (ad ?_));refine bH G (λG2=>?_) (λG2=>?_)
        ·refine aS ?_;exact Ei G (.inr (TZ (by simpa using G2)))
        ·obtain⟨M9,N9,hJ9,s9,hN9⟩:=hc5 (cF.1 G2);refine aM ?_;refine⟨G,(eW a' (iZ a' b'),eW b' (iZ a' b')),a11,?_,?_⟩
         ·exact⟨RN.rest _,RO.rest _,v0,v1,M9,hJ9,s9.bY JS (λh=>(hN9 _ h).1 rfl),s9.bY JT (λh=>(hN9 _ h).2 rfl),sk.le s9.le,sz.le s9.le⟩
         ·exact rT RN RO Q1
   ·refine de ?_
    have si:a'=[]:=by
     cases a' with
     |nil=>rfl
     |cons p tl=>simp at Uf
    have D9:b'=[]:=by
     cases b' with
     |nil=>rfl
     |cons p tl=>simp at c0
    subst si;subst D9;change yu Tryz.prog Tryz.f200 (λ_ w'=>(∃M',J [] [] M' w')\/Jx w') .normal _ [] _;exact kM G (.inl ⟨_,hJ⟩)
end Go.K
namespace Go.K
open Go.Proofs
namespace TKOf
theorem MH:TI Tryz.prog 36 (.slice none 0 0) 1 24:=by unfold TI;kernel_rfl
theorem fE:TI Tryz.prog 45 (.agg #[(.int .i64 0),(.int .i64 0)]) 2 16:=by unfold TI;kernel_rfl
theorem A0:TI Tryz.prog 261 (.agg #[(.int .i64 0),(.int .i64 0),(.int .i64 0)]) 3 24:=by unfold TI;kernel_rfl
theorem qU:placesOf Tryz.prog 45=[(0,1),(1,1)].map some:=by kernel_rfl
theorem Zl:Enters Tryz.prog 102:=enters Tryz.func102 rfl q0
theorem ama:Enters Tryz.prog 158:=enters Tryz.func158 rfl q0
theorem amb:Enters Tryz.prog 200:=enters Tryz.func200 rfl q0
end TKOf
open TKOf
set_option maxRecDepth 10000
structure BY (M:aP) (w0:World) (least:Int) (b5 bo ba bb D:Nat) (st:Obj) (vo:Value) (xs:List Fo) (M1:aP) (w:World):Prop where
 lt:Lt M1 w
 S:Step M w0 M1 w aH
 mo:M1 bo
 ma:M1 ba
 mb:M1 bb
 md:M1 D
 mr:M1 (D+1)
 h5:w.heap[b5]? =some (.cells #[.int .i64 least] 3 (0,0))
 o:w.heap[bo]? =some (.cells #[vo] 36 (0,0))
 d:w.heap[D]? =some (.deferred (some []))
 r:w.heap[D+1]? =some st
 ne:(b5<D/\bo<D/\ba<D/\bb<D)/\(bo≠b5/\bo≠ba/\bo≠bb/\b5≠ba/\b5≠bb)/\(w0.heap.size<=bo/\w0.heap.size<=ba/\w0.heap.size<=bb/\w0.heap.size<=D)
 hk:Own RT.fo 45 M1 w (D+2) vo xs
section
variable {M M1 M2 N:aP} {w0 w w':World} {least:Int} {b5 bo ba bb D:Nat} {st st':Obj} {vo:Value} {xs:List Fo}
theorem BY.step (h:BY M w0 least b5 bo ba bb D st vo xs M1 w) (s:Step M1 w M2 w' N) (hN:∀k,N k->k=ba\/k=bb):BY M w0 least b5 bo ba bb D st vo xs M2 w':=by
 obtain⟨⟨e1,e2,e3,e4⟩,⟨e5,e6,e7,e8,e9⟩,Ia,Lu,JY,PE⟩:=h.ne;have mm:=λ{b:Nat} (hm:M1 b)=>(s.mem b (h.lt b hm)).2 hm
 have no:∀b,b≠ba->b≠bb->¬N b:=λb h1 h2 hn=>by rcases hN b hn with h|h;exact h1 h;exact h2 h
 exact⟨s.lt h.lt,h.S.cE s (λb hb=>by rcases hN b hb with rfl|rfl<;>assumption),mm h.mo,mm h.ma,mm h.mb,mm h.md,mm h.mr,s.bY h.h5 (no _ e8 e9),s.bY h.o (no _ e6 e7),s.bY h.d (no _ hV hV),s.bY h.r (no _ hV hV),h.ne,
  h.hk.step s (λk hk hh=>by have:=(h.hk.base k hk).1;rcases hN k hh with h|h<;>omega)⟩
theorem BY.qG (h:BY M w0 least b5 bo ba bb D st vo xs M1 w):BY M w0 least b5 bo ba bb D st' vo xs M1 (w.putObj (D+1) st')/\Step M1 w M1 (w.putObj (D+1) st') (λk=>k=D+1):=by
 obtain⟨⟨e1,e2,e3,e4⟩,⟨e5,e6,e7,e8,e9⟩,Ia,Lu,JY,PE⟩:=h.ne;have s:Step M1 w M1 (w.putObj (D+1) st') (λk=>k=D+1):=gE h.mr;exact⟨⟨s.lt h.lt,h.S.cE s (λb hb=>by omega),h.mo,h.ma,h.mb,h.md,h.mr,s.bY h.h5 hV,s.bY h.o hV,s.bY h.d hV,World.putObj_heap_same (ah h.r),h.ne,h.hk.step s (λk qx hh=>by have:=(h.hk.base k qx).1;omega)⟩,s⟩
theorem BY.grow {Zm:Value} {xs':List Fo} (h:BY M w0 least b5 bo ba bb D st vo xs M1 w) (s:Step M1 w M2 w' (λk=>vo.ownBlock=some k)) (hk:Own RT.fo 45 M2 w' (D+2) Zm xs'):
  (w'.heap[bo]? =some (.cells #[vo] 36 (0,0))/\M2 bo)/\∀{w2:World},Step M2 w' M2 w2 (λk=>k=bo)->w2.heap[bo]? =some (.cells #[Zm] 36 (0,0))->BY M w0 least b5 bo ba bb D st Zm xs' M2 w2:=by
 obtain⟨⟨e1,e2,e3,e4⟩,⟨e5,e6,e7,e8,e9⟩,Ia,Lu,JY,PE⟩:=h.ne;have hn:∀k,vo.ownBlock=some k->D+2<=k:=λk hk=>(h.hk.base k hk).1
 have mm:=λ{b:Nat} (hm:M1 b)=>(s.mem b (h.lt b hm)).2 hm
 refine ⟨⟨s.bY h.o (λhh=>by have:=hn _ hh;omega),mm h.mo⟩,λ{w2} s2 hx=> ?_⟩;have S':=h.S.cE s (λk hk=>by have:=hn k hk;omega)
 exact⟨s2.lt (s.lt h.lt),S'.cE s2 (λk hk=>by subst hk;exact Ia),mm h.mo,mm h.ma,mm h.mb,mm h.md,mm h.mr,s2.bY (s.bY h.h5 (λhh=>by have:=hn _ hh;omega)) (λhh=>e5 hh.symm),hx,s2.bY (s.bY h.d (λhh=>by have:=hn _ hh;omega)) hV,s2.bY (s.bY h.r (λhh=>by have:=hn _ hh;omega)) hV,h.ne,
  hk.step s2 (λk qx hh=>by have:=(hk.base k qx).1;omega)⟩
end
set_option maxHeartbeats 2000000 in
theorem Ke {M:aP} {w0:World} {va vb:Value} {a b:List Fo} {least:Int} (hM:Lt M w0) (kS:((RT.fo).sl).V M w0 a va) (tb:((RT.fo).sl).V M w0 b vb) (oa:qR a) (ob:qR b) (hl:a.length+b.length<=1099511627776):
  Spec Tryz.prog 102 #[va,vb,.int .i64 least] w0 (λv' w'=>∃M',Lt M' w'∧Step M w0 M' w' aH/\Own RT.fo 45 M' w' w0.heap.size v' (BB least a b)):=by
 refine uI (args:=[_,_,_]) (fn:=Tryz.f102) Tryz.func102 G (n:=26) Tryz.ntmps102 (T.aU ?_);refine qu M G G (λb5 w1 z1 z1' g5 s1=>?_);change w1.heap[b5]? =some (.cells #[.int .i64 least] _ _)at g5;refine Rg.a8 G G (T.aU ?_);refine eu (ins M b5) MH G (λbo w2 z2 z2' go s2=>?_);change w2.heap[bo]? =some (.cells #[.slice none 0 0] _ _)at go;replace g5:=s2.aF g5;have S2:=s1.ar s2;have Js:=S2.lt hM;have y1:=s1.size;have y2:=s2.size;refine ad (aQ (T.aU (ab G G (ab G G ?_))));refine aV G G ama (L7 Js (kS.le S2.le) (tb.le S2.le)) (λr3 w3 h=>?_);obtain⟨ba,bb,rfl,gA,gB,fB,za,zb,s3⟩:=h;replace g5:=s3.aF g5;replace go:=s3.aF go;have S3:=S2.ar s3;have PC:=S3.lt hM;have xa:=ah gA;have xb:=ah gB;have x5:=ah g5;have xo:=ah go;have y3:=s3.size;obtain⟨Mb,yF⟩:∃Mb,Mb=ins (ins (ins (ins M b5) bo) ba) bb:=⟨_,rfl⟩;have mo:Mb bo:=by rw[yF];exact .inr (.inr (.inl G))
 have ma:Mb ba:=by rw[yF];exact .inr (.inl G)
 have mb:Mb bb:=by rw[yF];exact .inl G
 rw[<-yF]at S3 PC s3;have Q2:=(kS.le S2.le).le s3.le;have Q3:=(tb.le S2.le).le s3.le;refine ad (bp ?_);refine T.range (gf:=200) (lb:= #[.pointer (some ⟨ba,0,none⟩),.pointer (some ⟨bb,0,none⟩)]) G amb (λrec uG=>?_);obtain⟨D,hD⟩:∃D,D=w3.heap.size:=⟨_,rfl⟩;rw[<-hD]at uG ⊢;have sA:Step Mb w3 (ins Mb w3.heap.size) (w3.alloc (.deferred (some []))) aH:=(ef _ w3 _).own (aK _) (by simp);have sB:Step (ins Mb w3.heap.size) (w3.alloc (.deferred (some []))) (ins (ins Mb w3.heap.size) (w3.heap.size+1)) ((w3.alloc (.deferred (some []))).alloc (.loop (rec .ready none))) aH:=(ef _ _ _).own (by simp) (by simp);have sC:=sA.ar sB;have hDd:(w3.alloc (.deferred (some []))).heap[w3.heap.size]? =some (.deferred (some [])):=dC w3 _;have hR:((w3.alloc (.deferred (some []))).alloc (.loop (rec .ready none))).heap[w3.heap.size+1]? =some (.loop (rec .ready none)):=by have:=dC (w3.alloc (.deferred (some []))) (.loop (rec .ready none));rwa [World.size_alloc]at this
 have y0:=S2.size;refine Spec.mono (IV (M:=ins (ins Mb w3.heap.size) (w3.heap.size+1)) (va:=va) (vb:=vb) (J:=(λa' b' M1 w=>∃vo xs,BY M w0 least b5 bo ba bb D (.loop (rec .ready none)) vo xs M1 w/\xs++BB least a' b'=BB least a b)) (Jx:=λ_=>False) fB (λa' b' M1 w ⟨vo,xs,h,_⟩=>⟨h.lt,h.ma,h.mb⟩) (λa' b' M1 w M2 w' ⟨vo,xs,h,hx⟩ s=>⟨vo,xs,h.step s (λ_ h=>h),hx⟩) (λa' b' M1 wr hJ RN RO VY=>?_) (sC.aF gA) (sC.aF gB) (Q2.le sC.le) (Q3.le sC.le) oa ob ⟨.slice none 0 0,[],?_,G⟩) (λ_ w4 h4=>?_)
 rotate_left
 ·rw[hD];exact⟨sC.lt PC,S3.ar sC,.inr (.inr mo),.inr (.inr ma),.inr (.inr mb),.inr (.inl G),.inl G,sC.aF g5,sC.aF go,sB.aF hDd,hR,by omega,ep _ _ _ _ _⟩
 rotate_left
 ·obtain⟨vo,xs,h,hx⟩:=hJ;refine rR (ps:=[12]) (vs:=[.agg #[.int .i64 (iZ a' b'),.int .i64 (sw a' b' 2),.int .i64 (sx a' b' 2)]]) uG h.r G q0 ?_;have yM:=congrArg List.length hx;have Uh:=yP least (a.length+b.length) a b;change(BB least a b).length<=_ at Uh;rw[bT]at yM;have Ui:=ru (least:=least) RN RO VY;refine ay ?_;refine eu M1 A0 G (λb8 w4 z8 z8' g8 s4=>?_);obtain⟨M2,yJ⟩:∃M2,M2=ins M1 b8:=⟨_,rfl⟩;have hm8:M2 b8:=by rw[yJ];exact .inl G
  rw[<-yJ]at s4;refine dm (M:=M2) (vs:=[.int .i64 (iZ a' b'),.int .i64 (sw a' b' 2),.int .i64 (sx a' b' 2)]) A0 G G al4 rfl rfl g8 hm8 (λw5 g8' s5=>?_);change w5.heap[b8]? =some (.cells #[.int .i64 (iZ a' b'),.int .i64 (sw a' b' 2),.int .i64 (sx a' b' 2)] _ _)at g8';have S5:=s4.cE s5 (λk hk=>by subst hk;exact z8);have h3:=h.step S5 (λk hk=>hk.elim);refine ad (⟨G,h3.r,?_⟩);obtain⟨h4,sR⟩:=h3.qG (st':= .loop (rec .busy none));have hD8:b8≠D+1:=by have:=ah h.r;omega
  have g8x:=sR.bY g8' hD8;generalize w5.putObj (D+1) _=wB at h4 g8x sR ⊢;refine bp (T.aU (a7 dw G G I3 q0 G G (aR al G G G g8x G (aZ (v':= .int .i64 (sw a' b' 2)) G (aR al G G G h4.h5 G (aZ (v':= .int .i64 least) G (cu G G G (ad ?_))))))));refine bH G (λc4=>?_) (λc4=>?_)
  ·refine ay (aR an G G G h4.o G (aZ (v':=vo) G (a7 dw G G I3 q0 G G (aR al G G G g8x G (aZ (v':= .int .i64 (iZ a' b')) G (a7 dw G G I3 q0 rfl rfl (aR al rfl rfl rfl g8x rfl (aZ (v':= .int .i64 (sx a' b' 2)) rfl (cx (places:=[(0,1),(1,1)]) bm fE qU rfl ⟨_,_,rfl,rfl,_,_,rfl,rfl,rfl⟩ (out:=[_,_]) ⟨0,[_],rfl,rfl,by simp[Value.cells],1,[_],rfl,rfl,by simp[Value.cells],rfl⟩ ?_)))))))));refine dT (A:=RT.fo) (hn:=by decide) (M:=M2) an fE q0 G G h4.lt (kX (by have:=Sm RN RO;omega) (Sn a' b' 2)) (.inl rfl) (λu6 w6 uU s6=>?_);have h6:=h4.step s6 (λk hk=>hk.elim);refine cI (M:=M2) (base:=D+2) an fE rfl rfl rfl rfl (h6.hk) uU ck a06 a06 (by have:=ah h6.r;omega) (λv7 M3 w7 uw s7=>?_);obtain⟨⟨go7,mo7⟩,Wc⟩:=h6.grow s7 uw;refine cA (M:=M3) MH rfl rfl go7 rfl (by obtain⟨_,_,he,_⟩:=uw.isSlice;rw[he];rfl) mo7 (λw8 go8 s8=>?_);have h8:=Wc s8 go8;refine ad ?_
   first
   |(obtain⟨h9,sE⟩:=h8.qG (st':= .loop (rec .ready none))
     obtain⟨⟨e1,e2,e3,e4⟩,⟨e5,e6,e7,Ia,Lu⟩,JY⟩:=h8.ne;exact⟨h8.r,true,rfl,(λ_=>⟨M3,λk=>(k=D+1\/vo.ownBlock=some k\/k=bo)/\M1 k,⟨v7,_,h9,by rw[<-hx,Ui,if_pos c4,List.append_assoc]⟩,(((((S5.eE a30 (λk hk=>hk.2)).trans sR (λk _ hk=>by subst hk;exact⟨.inl G,h.mr⟩)).ar s6).trans s7 (λk fg hk=>⟨.inr (.inl hk),h.hk.mut_ k hk⟩)).trans s8 (λk _ hk=>by subst hk;exact⟨.inr (.inr rfl),h.mo⟩)).trans sE (λk _ hk=>by subst hk;exact⟨.inl rfl,h.mr⟩),λk hk=>by rcases hk.1 with h1|h1|h1;omega;(have:=(h.hk.base k h1).1;omega);(subst h1;exact⟨e6,e7⟩)⟩),λh=>by(cases h)⟩)
   |(obtain⟨h9,sE⟩:=h4.qG (st':= .loop (rec .ready none))
     obtain⟨⟨e1,e2,e3,e4⟩,⟨e5,e6,e7,Ia,Lu⟩,JY⟩:=h4.ne;exact⟨h4.r,true,rfl,(λ_=>⟨M2,λk=>k=D+1/\M1 k,⟨vo,xs,h9,by rw[<-hx,Ui,if_neg c4,ix]⟩,((S5.eE a30 (λk hk=>hk.2)).trans sR (λk _ hk=>by subst hk;exact⟨rfl,h.mr⟩)).trans sE (λk _ hk=>by subst hk;exact⟨rfl,h.mr⟩),λk hk=>by omega⟩),λh=>by(cases h)⟩)
  ·refine aM ?_
   first
   |(obtain⟨h9,sE⟩:=h8.qG (st':= .loop (rec .ready none))
     obtain⟨⟨e1,e2,e3,e4⟩,⟨e5,e6,e7,Ia,Lu⟩,JY⟩:=h8.ne;exact⟨h8.r,true,rfl,(λ_=>⟨M3,λk=>(k=D+1\/vo.ownBlock=some k\/k=bo)/\M1 k,⟨v7,_,h9,by rw[<-hx,Ui,if_pos c4,List.append_assoc]⟩,(((((S5.eE a30 (λk hk=>hk.2)).trans sR (λk _ hk=>by subst hk;exact⟨.inl G,h.mr⟩)).ar s6).trans s7 (λk fg hk=>⟨.inr (.inl hk),h.hk.mut_ k hk⟩)).trans s8 (λk _ hk=>by subst hk;exact⟨.inr (.inr rfl),h.mo⟩)).trans sE (λk _ hk=>by subst hk;exact⟨.inl rfl,h.mr⟩),λk hk=>by rcases hk.1 with h1|h1|h1;omega;(have:=(h.hk.base k h1).1;omega);(subst h1;exact⟨e6,e7⟩)⟩),λh=>by(cases h)⟩)
   |(obtain⟨h9,sE⟩:=h4.qG (st':= .loop (rec .ready none))
     obtain⟨⟨e1,e2,e3,e4⟩,⟨e5,e6,e7,Ia,Lu⟩,JY⟩:=h4.ne;exact⟨h4.r,true,rfl,(λ_=>⟨M2,λk=>k=D+1/\M1 k,⟨vo,xs,h9,by rw[<-hx,Ui,if_neg c4,ix]⟩,((S5.eE a30 (λk hk=>hk.2)).trans sR (λk _ hk=>by subst hk;exact⟨rfl,h.mr⟩)).trans sE (λk _ hk=>by subst hk;exact⟨rfl,h.mr⟩),λk hk=>by omega⟩),λh=>by(cases h)⟩)
 ·obtain⟨Mz,vo,xs,h,hx⟩:=h4.resolve_right (λh=>h);left;rw[Sq,bz]at hx;obtain⟨h5,_⟩:=h.qG (st':= .loop (rec .exhausted none));refine ⟨h.r,?_⟩;generalize w4.putObj (D+1) _=wE at h5 ⊢;have Uh:=yP least (a.length+b.length) a b;change(BB least a b).length<=_ at Uh;refine T.aU (aR an G G G h5.o G (aZ (v':=vo) G (Rg.a8 G G (aS ?_))));obtain⟨⟨e1,e2,e3,e4⟩,e5,Ia,Lu,JY,PE⟩:=h5.ne;have sZ:Step Mz wE Mz (wE.putObj D (.deferred none)) (λk=>k=D):=gE h5.md;have SZ:=h5.S.cE sZ (λk hk=>by subst hk;exact PE);rw[<-hx];rw[<-hx]at Uh;exact Hh G G h5.d ⟨_,SZ.lt hM,SZ,(h5.hk.step sZ (λk hk hh=>by have:=(h5.hk.base k hk).1;omega)).jv hV⟩
theorem Kf {M:aP} {w0:World} {va vb:Value} {a b:List Fo} (hM:Lt M w0) (kS:((RT.fo).sl).V M w0 a va) (tb:((RT.fo).sl).V M w0 b vb) (oa:qR a) (ob:qR b) (hl:a.length+b.length<=1099511627776):
  Spec Tryz.prog 53 #[va,vb] w0 (λv' w'=>∃M',Lt M' w'∧Step M w0 M' w' aH/\Own RT.fo 45 M' w' w0.heap.size v' (BB 2 a b)):=by
 refine bD (args:=[_,_]) (fn:=Tryz.f53) Tryz.func53 G (n:=8) Tryz.ntmps53 (T.aU (Rg.a8 G G (T.aU (ab G G (ab G G ?_)))));refine aV G G Zl (Ke hM kS tb oa ob hl) (λr1 w1 h=>?_);obtain⟨M1,h1,s1,ho⟩:=h;refine Rg.a8 G G (aS ?_);exact aT G G ⟨M1,h1,s1,ho⟩
theorem Q9 {M:aP} {w0:World} {va vb:Value} {a b:List Fo} (hM:Lt M w0) (kS:((RT.fo).sl).V M w0 a va) (tb:((RT.fo).sl).V M w0 b vb) (oa:qR a) (ob:qR b) (hl:a.length+b.length<=1099511627776):Spec Tryz.prog 53 #[va,vb] w0 (λv' w'=>((RT.fo).sl).V M w' (BB 2 a b) v'∧Step M w0 M w' aH):=
 (Kf hM kS tb oa ob hl).mono λ_ w ⟨M',h1,h2,h3⟩=>⟨h3.close hM h2 (ch (yP _ (a.length+b.length) a b) hV),h2.back⟩
end Go.K

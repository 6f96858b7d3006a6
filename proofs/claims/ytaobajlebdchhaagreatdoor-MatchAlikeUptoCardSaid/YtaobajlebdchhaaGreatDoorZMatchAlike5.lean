/- What the law 'MatchAlike' needs of walks and plain Lean, part 5: nothing is assumed beyond the texts that it imports. -/
import Derived.KernelRfl
import Derived.Test.YtaobajlebdchhaaGreatDoorProg
import Derived.Test.YtaobajlebdchhaaGreatDoorZMatchAlike1
import Derived.Test.YtaobajlebdchhaaGreatDoorZMatchAlike2
import Derived.Test.YtaobajlebdchhaaGreatDoorZMatchAlike3
import Derived.Test.YtaobajlebdchhaaGreatDoorZMatchAlike4
set_option linter.unusedVariables false
set_option linter.unusedSimpArgs false
namespace Go.K
open Go.Proofs
namespace TKSet
theorem Cr:TI Tryz.prog 126 (.slice none 0 0) 1 24:=by unfold TI;kernel_rfl
theorem ajh:TI Tryz.prog 128 (.agg #[(.int .i64 0),(.slice none 0 0)]) 2 32:=by unfold TI;kernel_rfl
theorem tM:TI Tryz.prog 205 (.int .u64 0) 1 8:=by unfold TI;kernel_rfl
theorem aji:placesOf Tryz.prog 128=[(0,1),(1,1)].map some:=by kernel_rfl
theorem E61:Enters Tryz.prog 61:=enters Tryz.func61 rfl q0
theorem E64:Enters Tryz.prog 64:=enters Tryz.func64 rfl q0
theorem abP:Enters Tryz.prog 114:=enters Tryz.func114 rfl q0
end TKSet
open TKSet
set_option maxRecDepth 10000
theorem Ar {w0:World} {k m x:Nat} (tab:∃e fr,w0.heap[1]? =some (.cells (FJ.map fun(k:Nat)=>Value.int .u8 (k:Int)).toArray e fr)) (hx:x=2^k*(2*m+1)) (hl:x<2^64):
  Spec Tryz.prog 274 #[.int .u64 x] w0 (λv' w'=>v'= .int .i64 k/\w0=w'):=by
 obtain⟨et,ft,tab⟩:=tab;have hp:=Nat.two_pow_pos k;have xE:0<x:=by rw[hx];exact Nat.mul_pos hp hV
 have TT:2^k<=x:=by rw[hx];exact Nat.le_mul_of_pos_right _ hV
 have hk:k<64:=by
  rcases cK k 64 with h2|h2
  ·exact h2
  ·have:=wH (n:=2) q0 h2;omega
 obtain⟨hd1,hd2⟩:=UQ k hk;have nr:((FJ.map fun(k:Nat)=>Value.int .u8 (k:Int)).toArray)[(2^k*285870213051353865)%2^64/2^58]? =some (.int .u8 (k:Int)):=by rw[ll,eN,hd2];rfl
 refine a8 (args:=[_]) (fn:=Tryz.f274) Tryz.func274 G (n:=14) Tryz.ntmps274 (T.aP (Rg.bg G G (aN (T.aP (ab G G (ic G G G (ad (T.IN G (hV) ?_))))))));refine aR (T.aP (ab rfl rfl (ab rfl rfl (Rg.ae8 rfl rfl (bh (v':= .int .u64 ((2^64-x:Nat):Int)) (by rw[show(0:Int)-(x:Int)=((2^64-x:Nat):Int)-18446744073709551616 from by omega];simp[IntKind.wrap,IntKind.bits,IntKind.signed];omega) (Rg.and rfl rfl rfl (bh (v':= .int .u64 ((2^k:Nat):Int)) (by rw[FI x (2^64-x) hl hV,hx,QB hV]) (Rg.aeC rfl rfl rfl (bh (v':= .int .u64 (((2^k*285870213051353865)%2^64:Nat):Int)) (congrArg _ (by rw[show((2^k:Nat):Int)*285870213051353865=((2^k*285870213051353865:Nat):Int)from by rw[Int.natCast_mul];rfl];exact BR _)) (Rg.shr G G G q0 ?_))))))))));refine bh (v':= .int .u64 (((2^k*285870213051353865)%2^64/2^58:Nat):Int)) (congrArg _ (UR _ 58 q0)) (Rg.UP (len:=64) Tryz.underlying389 I5 G G G hV (aG (v:= .int .u8 (k:Int)) cP rfl rfl rfl tab (by rw[aw];exact nr) (Rg.uu cP ak G G hV (Rg.bg G G (aJ ?_)))));exact ai8
theorem Io {M:aH} {w0:World} {n:Nat} {ws:List Nat} {bs bw:Nat} (h:jm 128 205 n ws M w0 bs bw) {i:Int}:
  Spec Tryz.prog 114 #[.pointer (some ⟨bs,0,none⟩),.int .i64 i] w0 (λv' w'=>v'= .bool (decide (0<=i/\i<n))/\w0=w'):=by
 have hS:=h.s;have hW:=h.w;have hlen:=h.len;have eZ:=h.ok;have Sx:=h.nn;refine a8 (args:=[_,_]) (fn:=Tryz.f114) Tryz.func114 G (n:=15) Tryz.ntmps114 (T.aP (Rg.bg G G (T.aP (ab G G (ed G G G (ab G G ?_))))));refine aO (g:=7) G (λir=>?_) (λir=>?_)
 ·refine ah G G (ab G G (ah G G (ab G G (ah G G (aW G ⟨_,G⟩ G (ah G G (aT fE G G I3 q0 G G (ah G G (aG ak G G G Ub G (ah G G (cy G G G ?_)))))))))));refine aU G G G (Rg.bg G G (aJ ?_))
  first
  |exact a62
  |exact a61
 ·refine aj G G G G (aj G G G G (aj G G G G (aj G G G G (aj G G G G (aj G G G G (az G G G (Rg.bg G G (aJ ?_))))))))
  first
  |exact a62
  |exact a61
theorem Oz {M:aH} {w0:World} {n:Nat} {ws:List Nat} {bs bw:Nat} (h:jm 128 205 n ws M w0 bs bw) {i:Int}:
  Spec Tryz.prog 64 #[.pointer (some ⟨bs,0,none⟩),.int .i64 i] w0 (λv' w'=>v'= .bool (SM n ws i)/\w0=w'):=by
 have hS:=h.s;have hW:=h.w;have hlen:=h.len;have eZ:=h.ok;have Sx:=h.nn;refine a8 (args:=[_,_]) (fn:=Tryz.f64) Tryz.func64 G (n:=23) Tryz.ntmps64 (T.aP (Rg.bg G G (T.aP (ab G G (ab G G ?_)))));refine aQ G G abP (Io h) (λr wc h=>?_);obtain⟨rfl,rfl⟩:=h;refine ab G G ?_;refine aO (g:=8) G (λj4=>?_) (λj4=>?_)
 ·obtain⟨j,rfl⟩:∃j:Nat,i=j:=⟨i.toNat,by omega⟩;refine ah G G (ab G G (ah G G (aW G ⟨_,G⟩ G (ah G G (aT fE G G Cr q0 G G (ah G G (aG dM G G G Ub G (ah G G (ab G G (ah G G (Rg.xG G G G hV ?_)))))))))));refine ah G G (Rg.BP dM tM G G G hV (ah rfl rfl (aG ru rfl rfl rfl hW (v:= .int .u64 ((ws.getD (j/64) 0:Nat):Int)) (by rw[show(((j:Int)/64)).toNat=j/64 from by omega];exact iY hV) (ah G G (ab G G (ah G G (Rg.wJ G G G hV (ah G G (Rg.shr G G G hV (bh (v':= .int .u64 ((ws.getD (j/64) 0/2^(j%64):Nat):Int)) (congrArg _ (by rw[show((j:Int)%64)=((j%64:Nat):Int)from by omega];exact UR _ _ hV)) (ah G G ?_)))))))))));refine Rg.and G G G (bh (v':= .int .u64 ((ws.getD (j/64) 0/2^(j%64)%2:Nat):Int)) (congrArg _ (by have:=FI (ws.getD (j/64) 0/2^(j%64)) 1 (Nat.lt_of_le_of_lt (Nat.div_le_self _ _) (eZ.get _)) q0;rw[Nat.and_one_is_mod]at this;exact this)) (ah G G (ic G G G (aU G G G (Rg.bg G G (aJ ?_))))))
  first
  |exact aM G G ⟨congrArg Value.bool ag3,G⟩
  |exact aM G G ⟨congrArg Value.bool (by unfold SM;rw[decide_eq_false j4,eL]),rfl⟩
 ·refine aj G G G G (aj G G G G (aj G G G G (aj G G G G (aj G G G G (aj G G G G (aj G G G G (aj G G G G (aj G G G G (aj G G G G (aj G G G G (aj G G G G ?_)))))))))));refine aj G G G G (az G G G (Rg.bg G G (aJ ?_)))
  first
  |exact aM G G ⟨congrArg Value.bool ag3,G⟩
  |exact aM G G ⟨congrArg Value.bool (by unfold SM;rw[decide_eq_false j4,eL]),rfl⟩
theorem OA {M:aH} {w0:World} {n:Nat} {ws:List Nat} {bs bw:Nat} (h:jm 128 205 n ws M w0 bs bw) {i:Int} (hb:∀j,bit ws j=true->j<n):
  Spec Tryz.prog 61 #[.pointer (some ⟨bs,0,none⟩),.int .i64 i,.bool true] w0 (λv' w'=>∃xh,jm 128 205 n xh M w' bs bw/\(∀j:Nat,bit xh j=(bit ws j&&decide ((j:Int)≠i)))/\Step M w0 M w' (λb=>b=bw)):=by
 have hS:=h.s;have hW:=h.w;have hlen:=h.len;have eZ:=h.ok;have Sx:=h.nn;have hmw:∀b:Nat,b=bw->M b:=λb hb=>by rw[hb];exact h.mw
 refine a8 (args:=[_,_,_]) (fn:=Tryz.f61) Tryz.func61 G (n:=31) Tryz.ntmps61 (T.aP (Rg.bg G G (aN (T.aP (ab G G (ab G G ?_))))));refine aQ G G abP (Io h) (λr wc h=>?_);obtain⟨rfl,rfl⟩:=h;refine iv G G (bh (v':= .bool (decide (¬(0<=i/\i<n)))) (by rw[decide_not]) (ab G G ?_));refine aO (g:=11) G (λRF=>?_) (λRF=>?_)
 ·refine aj G G G G (aj G G G G (aj G G G G (aj G G G G (aj G G G G (aU G G G (ad (kJ G (T.aP (Rg.bg G G ?_)))))))));refine aJ ?_
  have KG:bit ws i.toNat=false\/i<0:=by
   by_cases h0:i<0
   ·exact .inr h0
   ·left
    cases U5:bit ws i.toNat with
    |false=>rfl
    |true=>
     have:=hb _ U5
     first
     |omega
     |(exfalso;apply c1;unfold SM;rw[U5,decide_eq_true hV];rfl)
  refine aM G G ⟨ws,h,λj=>?_,(aV).ek a18 hmw⟩;by_cases hj:(j:Int)=i
  ·rw[decide_eq_false (λh=>h hj),Bool.and_false];rcases KG with h1|h1
   ·rw[show i.toNat=j from by omega]at h1;exact h1
   ·omega
  ·rw[decide_eq_true hj,k5]
 ·refine ah G G (ab G G (ah G G (ab G G (ah G G ?_))));refine aQ G G E64 (Oz h) (λr wc h=>?_);obtain⟨rfl,rfl⟩:=h;refine ah G G (ab G G (ah G G (Rg.bne zU G G G (az G G G (ad ?_)))));refine bF G (λc1=>?_) (λc1=>?_)
  ·refine T.aP (Rg.bg G G (aJ ?_))
   have KG:bit ws i.toNat=false\/i<0:=by
    by_cases h0:i<0
    ·exact .inr h0
    ·left
     cases U5:bit ws i.toNat with
     |false=>rfl
     |true=>
      have:=hb _ U5
      first
      |omega
      |(exfalso;apply c1;unfold SM;rw[U5,decide_eq_true hV];rfl)
   refine aM G G ⟨ws,h,λj=>?_,(aV).ek a18 hmw⟩;by_cases hj:(j:Int)=i
   ·rw[decide_eq_false (λh=>h hj),Bool.and_false];rcases KG with h1|h1
    ·rw[show i.toNat=j from by omega]at h1;exact h1
    ·omega
   ·rw[decide_eq_true hj,k5]
  ·refine aR (aN ?_);obtain⟨j,rfl⟩:∃j:Nat,i=j:=⟨i.toNat,by omega⟩;apply T.qS (M:=M) mixed [] [cj.eq _,cj.eq _,cj.eq _,cj.eq (.slice (some ⟨bw,0,none⟩) ws.length ws.length),cj.eq _,cj.eq _,cj.eq (.pointer (some ⟨bw,((j:Int)/64).toNat,none⟩)),cj.eq (.int .u64 ((ws.getD (j/64) 0:Nat):Int)),cj.eq _,cj.eq _,cj.eq (.int .u64 ((2^(j%64):Nat):Int)),cj.eq (.int .u64 (((ws.getD (j/64) 0^^^2^(j%64)):Nat):Int)),cj.eq (.pointer (some ⟨bw,((j:Int)/64).toNat,none⟩))] 13
   ·rfl
   ·rfl
   ·rfl
   ·rfl
   ·rfl
   ·exact a86
   ·exact qA
   ·refine ay ?_ ?_
    ·intro wD E sD;refine ab G G ?_;exact a00
    refine ay ?_ ?_
    ·intro wD E sD;refine aq (aW G ⟨_,G⟩ G ?_);exact a00
    refine ay ?_ ?_
    ·intro wD E sD;refine aq (aT fE G G Cr q0 G G ?_);exact a00
    refine ay ?_ ?_
    ·intro wD E sD;refine aq (aG dM G G G (bY sD Ub) G ?_);exact a00
    refine ay ?_ ?_
    ·intro wD E sD;refine ab G G ?_;exact a00
    refine ay ?_ ?_
    ·intro wD E sD;refine aq (Rg.xG G G G hV ?_);exact a00
    refine ay ?_ ?_
    ·intro wD E sD;refine aq (aq (Rg.BP dM tM G G G hV ?_));exact a00
    refine ay ?_ ?_
    ·intro wD E sD;refine aq (aG ru rfl rfl rfl (sD.aB hW) (v:= .int .u64 ((ws.getD (j/64) 0:Nat):Int)) (by rw[show(((j:Int)/64)).toNat=j/64 from by omega];exact iY hV) ?_);exact a00
    refine ay ?_ ?_
    ·intro wD E sD;refine ab G G ?_;exact a00
    refine ay ?_ ?_
    ·intro wD E sD;refine aq (Rg.wJ G G G hV ?_);exact a00
    refine ay ?_ ?_
    ·intro wD E sD;refine aq (Rg.shl G G G hV (bh (v':= .int .u64 ((2^(j%64):Nat):Int)) (congrArg _ (by rw[show((j:Int)%64)=((j%64:Nat):Int)from by omega];exact Zf _ hV)) ?_));exact a00
    refine ay ?_ ?_
    ·intro wD E sD;refine aq (aq (Rg.xor G G G (bh (v':= .int .u64 (((ws.getD (j/64) 0^^^2^(j%64)):Nat):Int)) (congrArg _ (Ze _ _ (eZ.get _) (Nat.pow_lt_pow_right q0 hV))) ?_)));exact a00
    refine ay ?_ ?_
    ·intro wD E sD;refine aq (aq (aq (aq (aq (aq (aq (aq (aq (aq (aq (aq ?_)))))))))));refine aq (aq (Rg.BP dM tM G G G hV ?_));exact a00
    exact jS
   ·intro ZL pf;refine aq (aq (aq (aq (aq (aq (aq (aq (aq (aq (aq (aq ?_)))))))))));refine aq ?_;refine cg (M:=M) (u:= .int .u64 ((ws.getD (j/64) 0:Nat):Int)) tM rfl rfl (pf.aB hW) (by rw[show((j:Int)/64).toNat=j/64 from by omega];exact iY hV) G h.mw (λw5 hW5 s5=>?_);rw[show((j:Int)/64).toNat=j/64 from by omega,rM]at hW5;refine ad (T.aP (Rg.bg G G (aJ ?_)));have hX:(ws.getD (j/64) 0^^^2^(j%64))<2^64:=Nat.xor_lt_two_pow (eZ.get _) (Nat.pow_lt_pow_right q0 hV);refine aM G G ⟨ws.set (j/64) (ws.getD (j/64) 0^^^2^(j%64)),(h.step pf (λh=>h) (λh=>h)).put s5 (by simp) hW5 (eZ.set hX),λt=>?_,(pf.ek a18 hmw).trans s5 (λ_ _ h=>h)⟩
    have ajk:bit ws j=true:=by
     have:=cr.1 c1;unfold SM at this;rw[aw,b7]at this;exact this.2
    rw[Lz eZ hV];by_cases ht:t=j
    ·subst ht;rw[ajk];simp
    ·rw[decide_eq_false ht,Bool.xor_false,decide_eq_true hV,k5]
theorem OB {M:aH} {w0:World} {n:Nat} {ws:List Nat} {bs bw:Nat} (h:jm 128 205 n ws M w0 bs bw) {i:Int} (hb:∀j,bit ws j=true->j<n):
  Spec Tryz.prog 119 #[.pointer (some ⟨bs,0,none⟩),.int .i64 i] w0 (λv' w'=>∃xh,jm 128 205 n xh M w' bs bw/\(∀j:Nat,bit xh j=(bit ws j&&decide ((j:Int)≠i)))/\Step M w0 M w' (λb=>b=bw)):=by
 refine a8 (args:=[_,_]) (fn:=Tryz.f119) Tryz.func119 G (n:=8) Tryz.ntmps119 (T.aP (Rg.bg G G (T.aP (ab G G (ab G G ?_)))));refine aQ G G E61 (OA h hb) (λr1 w1 h=>?_);obtain⟨xh,h1,h2,h3⟩:=h;refine Rg.bg G G (aJ ?_);exact aM G G ⟨xh,h1,h2,h3⟩
theorem Bg {M:aH} {w0:World} {n:Nat} (hn:n<=1099511627776):
  Spec Tryz.prog 20 #[.int .i64 n] w0 (λv' w'=>∃bs bw,v'= .pointer (some ⟨bs,0,none⟩)/\w0.heap.size<=bs/\w0.heap.size<=bw/\Step M w0 (ins (ins M bw) bs) w' aE/\jm 128 205 n (List.replicate ((n+63)/64) 0) (ins (ins M bw) bs) w' bs bw):=by
 refine a8 (args:=[_]) (fn:=Tryz.f20) Tryz.func20 G (n:=13) Tryz.ntmps20 (T.aP (Rg.bg G G (T.aP (ab G G (Rg.max2 G G G (bh (v':= .int .i64 n) (congrArg _ hV) (Rg.bg G G ?_)))))));refine T.aP (ab G G (ab G G (bB G G G hV (jw G G G hV (Rg.xG G G G hV (bh (v':= .int .i64 (((n+63)/64:Nat):Int)) (congrArg _ hV) ?_))))));refine Rg.mk0 M dM tM G G G G hV hV (λbw w1 z1 z1' h1 s1=>?_);refine dg (places:=[(0,1),(1,1)]) fE ajh aji rfl ⟨_,_,rfl,rfl,_,_,rfl,rfl,rfl⟩ (out:=[_,_]) ⟨0,[_],rfl,rfl,by simp[Value.cells],1,[_],rfl,rfl,by simp[Value.cells],rfl⟩ ?_;refine o2 (ins M bw) G G (λbs w2 z2 z2' h2 s2=>?_);have y1:=s1.size;refine Rg.bg G G (aJ ?_);refine aM rfl rfl ⟨bs,bw,rfl,by omega,z1,s1.ax s2,.inl rfl,.inr (.inl rfl),by omega,by rw[List.length_replicate];exact h2,?_,by simp,λx hx=>by rw[List.eq_of_mem_replicate hx];decide,hn⟩;have:=s2.aB h1;rw[this];simp[pS]
end Go.K
namespace Go.K
open Go.Proofs
namespace TKSet3
theorem Cr:TI Tryz.prog 126 (.slice none 0 0) 1 24:=by unfold TI;kernel_rfl
theorem tM:TI Tryz.prog 205 (.int .u64 0) 1 8:=by unfold TI;kernel_rfl
theorem abR:Enters Tryz.prog 227:=enters Tryz.func227 rfl q0
theorem ajm:Enters Tryz.prog 274:=enters Tryz.func274 rfl q0
end TKSet3
open TKSet3
set_option maxRecDepth 10000
theorem zg {M:aH} {w0:World} {n:Nat} {ws:List Nat} {bs bw:Nat} (h:jm 128 205 n ws M w0 bs bw) {i:Int} (hi: -1<=i/\i<=1099511627776) (hb:∀j,bit ws j=true->j<n) (tab:∃e fr,w0.heap[1]? =some (.cells (FJ.map fun(k:Nat)=>Value.int .u8 (k:Int)).toArray e fr)):
  Spec Tryz.prog 227 #[.pointer (some ⟨bs,0,none⟩),.int .i64 i] w0 (λv' w'=>(∃r,v'= .int .i64 r/\SN ws i.toNat r/\ -1<=r/\r<=1099511627776)/\w0=w'):=by
 have hS:=h.s;have hW:=h.w;have hlen:=h.len;have eZ:=h.ok;have Sx:=h.nn;refine a8 (args:=[_,_]) (fn:=Tryz.f227) Tryz.func227 G (n:=36) Tryz.ntmps227 (T.aP (Rg.bg G G (T.aP (ab G G (Rg.max2 G G G (bh (v':= .int .i64 (i.toNat:Int)) (congrArg _ hV) (Rg.bg G G ?_)))))));refine aN (aY ?_);refine dz (σ:=Nat) (λs=>[(0,.pointer (some ⟨bs,0,none⟩)),(1,.int .i64 s)]) (λs w=>w0=w/\i.toNat<=s/\(∀t,i.toNat<=t->t<s->bit ws t=false)/\s<=1099511627840) (λs=>n+64-s) i.toNat a73 ?_ ?_
 ·exact⟨G,br _,λt h1 h2=>by omega,by omega⟩
 ·rintro p w1 ⟨rfl,hp,jB,rB⟩;refine aN (T.aP (ab G G (ab G G (aW G ⟨_,G⟩ G (aT fE G G I3 q0 G G (aG ak G G G Ub G (cy G G G (ad ?_))))))));refine bF G (λc2=>?_) (λc2=>?_)
  ·refine aR (aY (aN (T.aP (ab G G (aW G ⟨_,G⟩ G (aT fE G G Cr q0 G G (aG dM G G G Ub G (ab G G (Rg.xG G G G hV (Rg.BP dM tM G G G hV ?_))))))))));refine aG ru rfl rfl rfl hW (v:= .int .u64 ((ws.getD (p/64) 0:Nat):Int)) (by rw[show(((p:Int)/64)).toNat=p/64 from by omega];exact iY hV) (ab G G (Rg.wJ G G G hV (Rg.shr G G G hV (bh (v':= .int .u64 ((ws.getD (p/64) 0/2^(p%64):Nat):Int)) (congrArg _ (by rw[show((p:Int)%64)=((p%64:Nat):Int)from by omega];exact UR _ _ hV)) (Rg.bg G G (T.aP (ab G G (eW G G G (ad ?_)))))))));refine bF G (λc4=>?_) (λc4=>?_)
   ·refine T.aP (ab G G (ab G G ?_));obtain⟨k,m,FD⟩:=LA (ws.getD (p/64) 0/2^(p%64)) (Nat.pos_of_ne_zero λh=>c4 (by rw[h];rfl));have BD:=Dg (eZ.get _) (show p%64<64 by omega) FD;have ajn:ws.getD (p/64) 0/2^(p%64)<2^64:=Nat.lt_of_le_of_lt (Nat.div_le_self _ _) (eZ.get _);refine aQ G G ajm (Ar (k:=k) (m:=m) tab FD ajn) (λr wc h=>?_);obtain⟨rfl,rfl⟩:=h;refine bB G G G hV (Rg.bg G G (aJ ?_));have hlb:=λt ht=>(BQ (k:=k) (m:=m)).2 t ht
    have hbk:bit ws (p+k)=true:=by rw[x7 BD,FD];exact BQ.1
    have:=hb _ hbk
    exact aM G G ⟨⟨_,G,.inl ⟨p+k,by omega,by omega,hbk,λt h1 h2=>by
     rcases cK t p with h|h
     ·exact jB t h1 h
     ·have h3:=x7 (ws:=ws) (i:=p) (t:=t-p) hV;rw[show p+(t-p)=t from by omega]at h3;rw[h3,FD];exact hlb _ hV⟩,by omega,by omega⟩,rfl⟩
   ·have hz0:ws.getD (p/64) 0/2^(p%64)=0:=by
     have:=cr.1 c4;exact Int.ofNat.inj this
    refine aR (aL (ab G G (ab G G (Rg.wJ G G G hV (jw G G G hV (bB G G G hV (Rg.bg G G ?_)))))));refine⟨rfl,p+(64-p%64),(.cons rfl (.cons (by rw[show((p+(64-p%64):Nat):Int)=(p:Int)+(64-(p:Int)%64)from by omega];rfl) .nil)),?_,?_⟩
    ·refine⟨G,by omega,λt h1 h2=>?_,by omega⟩;rcases cK t p with h|h
     ·exact jB t h1 h
     ·have h3:=x7 (ws:=ws) (i:=p) (t:=t-p) hV;rw[show p+(t-p)=t from by omega]at h3;rw[h3,hz0];simp
    ·show n+64-(p+(64-p%64))<n+64-p;omega
  ·refine cQ (T.aP (Rg.bg G G (aJ ?_)))
   exact aM G G ⟨⟨_,G,.inr ⟨G,λt h1=>by
    rcases cK t p with h|h
    ·exact jB t h1 h
    ·cases N2:bit ws t with
     |false=>rfl
     |true=>have:=hb t N2;omega⟩,by omega,by omega⟩,rfl⟩
theorem J5 {M:aH} {w0:World} {bs:Nat} (hM:Lt M w0):
  Spec Tryz.prog 168 #[.pointer (some ⟨bs,0,none⟩)] w0 (λv' w'=>∃bl,v'= .func (.func 226) #[] #[.pointer (some ⟨bl,0,none⟩)]/\w'.heap[bl]? =some (.cells #[.pointer (some ⟨bs,0,none⟩)] 49 (0,0))/\w0.heap.size<=bl/\Step M w0 M w' aE):=by
 refine a8 (args:=[_]) (fn:=Tryz.f168) Tryz.func168 G (n:=4) Tryz.ntmps168 (T.aP ?_);refine o2 M G G (λbl w1 h1 Qu hS s1=>?_);change w1.heap[bl]? =some (.cells #[.pointer (some ⟨bs,0,none⟩)] _ _)at hS;refine Rg.bg G G (T.aP (jd (xs:=[]) (ys:=[.tmp 1]) G G G (Rg.bg G G (aJ ?_))));exact aM G G ⟨bl,G,hS,h1,s1.back⟩
theorem G0 {w0:World} {n:Nat} {ws:List Nat} {bs bw bl yl:Nat} {J:Nat->aH->World->Prop} {M:aH} {Jx:World->Prop} (hb:∀j,bit ws j=true->j<n) (Rw:∀p M w,J p M w->w.heap[bl]? =some (.cells #[.pointer (some ⟨bs,0,none⟩)] 49 (0,0))/\jm 128 205 n ws M w bs bw/\(∃e fr,w.heap[1]? =some (.cells (FJ.map fun(k:Nat)=>Value.int .u8 (k:Int)).toArray e fr))) (hy:∀(p j:Nat) (M:aH) (w:World),J p M w->p<=j->bit ws j=true->(∀t,p<=t->t<j->bit ws t=false)->xR Tryz.prog yl [.int .i64 j].toArray w (λr w'=>∃c,r= .bool c/\(c=true->∃M',J (j+1) M' w')/\(c=false->Jx w'))) (h0:J 0 M w0):
  Spec Tryz.prog 226 #[.func (.yield yl) #[] #[],.pointer (some ⟨bl,0,none⟩)] w0 (λ_ w'=>(∃p M',J p M' w'∧∀t,p<=t->bit ws t=false)\/Jx w'):=by
 obtain⟨Rr,Vu,ajo⟩:=Rw _ _ _ h0;refine a8 (args:=[_,_]) (fn:=Tryz.f226) Tryz.func226 G (n:=17) Tryz.ntmps226 (T.aP (aG Tryz.underlying49 G G G Ub G ?_));refine aQ G G abR (zg Vu (i:=0) hV hb ajo) (λr wc h=>?_);obtain⟨⟨r,rfl,hr,Yz,Sy⟩,rfl⟩:=h;refine Rg.bg G G (aY ?_);refine dz (σ:=Nat×Int) (λs=>[(0,.func (.yield yl) #[] #[]),(1,.pointer (some ⟨bl,0,none⟩)),(3,.int .i64 s.2)]) (λs w=>(∃M1,J s.1 M1 w)/\SN ws s.1 s.2/\ -1<=s.2/\s.2<=1099511627776/\s.1<=n) (λs=>n+1-s.1) (0,r) a09 ?_ ?_
 ·exact⟨⟨M,h0⟩,hr,Yz,Sy,bm _⟩
 ·clear hr Yz Sy;rintro⟨p,r⟩ w1 ⟨⟨M1,hJ⟩,hr,Yz,Sy,RL⟩;dsimp only at hJ hr Yz Sy RL ⊢;refine aN (T.aP (ab G G (ed G G G (ab G G ?_))));refine aO (g:=8) G (λir=>?_) (λir=>?_)
  ·refine ah G G (ab G G (ah G G (ab G G (ah G G ?_))))
   have hrj:∃j:Nat,r=j/\p<=j/\bit ws j=true/\∀t,p<=t->t<j->bit ws t=false:=by
    rcases hr with h|h
    ·exact h
    ·omega
   obtain⟨j,rfl,hpj,G1,jB⟩:=hrj;have hjn:=hb j G1;refine Rg.yield G (vs:=[.int .i64 j]) G G (hy p j M1 _ hJ hpj G1 jB) (λr4 w5 h5=>?_);obtain⟨c,rfl,hc5,RU⟩:=h5;refine bh (v':= .bool (decide (c=true))) (by simp) (aU G G G (ad ?_));refine bF G (λc1=>?_) (λc1=>?_)
   ·obtain⟨M2,hJ2⟩:=hc5 c1;obtain⟨Fm,CH,ajq⟩:=Rw _ _ _ hJ2;refine aR (aN (aY (aR (aL (aG Tryz.underlying49 G G G Ub G (ab G G (bB G G G hV ?_)))))));refine aQ G G abR (zg CH (i:=(j:Int)+1) (by have:=CH.nn;omega) hb ajq) (λr wc h=>?_);obtain⟨⟨r2,rfl,abT,hr3,hr4⟩,rfl⟩:=h;refine Rg.bg G G ?_;refine⟨G,(j+1,r2),a09,?_,?_⟩
    ·refine⟨⟨M2,hJ2⟩,?_,hr3,hr4,by simp only;omega⟩;rw[show((j:Int)+1).toNat=j+1 from by omega]at abT;exact abT
    ·simp only;omega
   ·refine cQ ?_;change wI Tryz.prog Tryz.f226 (λ_ w'=>(∃p M',J p M' w'∧∀t,p<=t->bit ws t=false)\/Jx w') .normal _ [] _
    first
    |exact jW G (.inr (RU (by simpa using c1)))
    |(have sI:∀t,p<=t->bit ws t=false:=by
       rcases hr with⟨j,h,_⟩|h
       ·omega
       ·exact h.2
      exact jW G (.inl ⟨p,M1,hJ,sI⟩))
  ·refine aj G G G G (aj G G G G (aj G G G G (az G G G (ad (iS G (cQ ?_))))));change wI Tryz.prog Tryz.f226 (λ_ w'=>(∃p M',J p M' w'∧∀t,p<=t->bit ws t=false)\/Jx w') .normal _ [] _
   first
   |exact jW G (.inr (RU (by simpa using c1)))
   |(have sI:∀t,p<=t->bit ws t=false:=by
      rcases hr with⟨j,h,_⟩|h
      ·omega
      ·exact h.2
     exact jW G (.inl ⟨p,M1,hJ,sI⟩))
end Go.K
namespace Go.K
open Go.Proofs
namespace TKSet2
theorem Cr:TI Tryz.prog 126 (.slice none 0 0) 1 24:=by unfold TI;kernel_rfl
theorem tM:TI Tryz.prog 205 (.int .u64 0) 1 8:=by unfold TI;kernel_rfl
theorem E20:Enters Tryz.prog 20:=enters Tryz.func20 rfl q0
theorem ajr:Enters Tryz.prog 174:=enters Tryz.func174 rfl q0
end TKSet2
open TKSet2
set_option maxRecDepth 10000
theorem Bh {ws vs:List Nat} {n:Nat} (hl:ws.length=(n+63)/64) (hv:vs.length=(n+63)/64) (hr:0<n%64) (h1:∀j,j<64*ws.length->bit vs j= !bit ws j) (j:Nat):bit (vs.set (vs.length-1) (vs.getD (vs.length-1) 0%2^(n%64))) j=(decide (j<n)&& !bit ws j):=by
 rw[BS _ hV];by_cases hj:j/64=vs.length-1
 ·rw[if_pos hj,Nat.testBit_mod_two_pow];have h2:=h1 j hV;have h3:(vs.getD (vs.length-1) 0).testBit (j%64)=bit vs j:=by unfold bit;rw[hj]
  rw[h3,h2];congr 1;exact decide_eq_decide.2 hV
 ·rw[if_neg hj];by_cases vP:j<n
  ·rw[h1 j hV,decide_eq_true vP,dr]
  ·rw[decide_eq_false vP,eL,QC hV]
theorem EL {ws vs:List Nat} {n:Nat} (hl:ws.length=(n+63)/64) (hr:n%64=0) (h1:∀j,j<64*ws.length->bit vs j= !bit ws j) (h2:∀j,64*ws.length<=j->bit vs j=false) (j:Nat):bit vs j=(decide (j<n)&& !bit ws j):=by
 by_cases vP:j<n
 ·rw[h1 j hV,decide_eq_true vP,dr]
 ·rw[decide_eq_false vP,eL,h2 j hV]
theorem J6 {M:aH} {w0:World} {n:Nat} {ws:List Nat} {bs bw:Nat} (h:jm 128 205 n ws M w0 bs bw):
  Spec Tryz.prog 174 #[.pointer (some ⟨bs,0,none⟩)] w0 (λv' w'=>∃os ow xh,v'= .pointer (some ⟨os,0,none⟩)/\w0.heap.size<=os/\w0.heap.size<=ow/\Step M w0 (ins (ins M ow) os) w' aE/\jm 128 205 n xh (ins (ins M ow) os) w' os ow/\∀j,bit xh j=(decide (j<n)&& !bit ws j)):=by
 have hS:=h.s;have hW:=h.w;have hlen:=h.len;have eZ:=h.ok;have Sx:=h.nn;refine a8 (args:=[_]) (fn:=Tryz.f174) Tryz.func174 G (n:=56) Tryz.ntmps174 (T.aP (Rg.bg G G (T.aP (ab G G (aW G ⟨_,G⟩ G (aT fE G G I3 q0 G G (aG ak G G G Ub G ?_)))))));refine aQ G G E20 (Bg (M:=M) Sx) (λr1 w1 h=>?_);obtain⟨os,ow,rfl,z1,z2,s1,hO1⟩:=h;obtain⟨M1,Ao⟩:∃M1,M1=ins (ins M ow) os:=⟨_,rfl⟩;rw[<-Ao]at s1 hO1;have h1:=h.step s1 (λh=>h) (λh=>h);have hS1:=h1.s;have lbs:=ae hS;have lbw:=ae hW;refine Rg.bg G G (aN (T.aP (ab G G (aW G ⟨_,G⟩ G (aT fE G G Cr q0 G G (aG dM G G G Ub G (Rg.uE dM G G (ab G G (ad ?_)))))))));refine aY ?_;refine dz (σ:=Nat×List Nat) (λs=>[(0,.pointer (some ⟨bs,0,none⟩)),(3,.pointer (some ⟨os,0,none⟩)),(15,.slice (some ⟨bw,0,none⟩) ws.length ws.length),(16,.int .i64 ws.length),(17,.int .i64 s.1)]) (λs w=>s.1<=ws.length/\jm 128 205 n ws M1 w bs bw/\jm 128 205 n s.2 M1 w os ow/\(∀j,j<64*s.1->bit s.2 j= !bit ws j)/\(∀j,64*s.1<=j->bit s.2 j=false)/\Step M1 w1 M1 w (λb=>b=ow)) (λs=>ws.length-s.1) (0,List.replicate ((n+63)/64) 0) a65 ?_ ?_
 ·exact⟨bm _,h1,hO1,λj hj=>by omega,λj hj=>Df _ _,(aV).ek a18 (λb hb=>by rw[hb];exact hO1.mw)⟩
 ·rintro⟨k,vs⟩ w2 ⟨hk,h2,Cs,uI,CR,S2⟩;dsimp only at hk Cs uI CR ⊢;have hS2:=h2.s;have hOS:=Cs.s;have k9:=Cs.len;refine T.aP (cy G G G (ad (aN ?_)));refine bF G (λc3=>?_) (λc3=>?_)
  ·refine aR (aN (aY (T.aP (ab G G (Rg.BP dM tM G G G hV (aG ru rfl rfl rfl h2.w (v:= .int .u64 ((ws.getD (k) 0:Nat):Int)) (by rw[show((k:Int)).toNat=k from by omega];exact iY hV) (aF G G (Rg.bg G G (aL ?_)))))))));refine ab G G (aW G ⟨_,G⟩ G (aT fE G G Cr q0 G G (aG dM G G G Ub G (ab G G (ab G G (Rg.Zd G G (eZ.get _) (Rg.BP dM tM G G G hV ?_)))))));refine cg (M:=M1) (u:= .int .u64 ((vs.getD k 0:Nat):Int)) tM rfl rfl Cs.w (by rw[aw];exact iY hV) G Cs.mw (λw5 hW5 s5=>?_);rw[aw,rM]at hW5;refine ad (aL (bB G G G hV (ab G G (ad ?_))));refine⟨G,(k+1,vs.set k (2^64-1-ws.getD k 0)),a65,?_,?_⟩
   ·refine⟨by simp only;omega,h2.step s5 hV hV,Cs.put s5 (by simp) hW5 (Cs.ok.set hV),λj hj=>?_,λj hj=>?_,S2.trans s5 (λ_ _ h=>h)⟩
    ·simp only at hj ⊢;rw[BS _ hV];by_cases Yx:j/64=k
     ·rw[if_pos Yx,LC (eZ.get _) hV];unfold bit;rw[Yx]
     ·rw[if_neg Yx];exact uI j hV
    ·simp only at hj ⊢;rw[BS _ hV,if_neg hV];exact CR j hV
   ·simp only;omega
  ·refine cQ (aN (T.aP (ab G G (aW G ⟨_,G⟩ G (aT fE G G I3 q0 G G (aG ak G G G Ub G (Rg.wJ G G G hV (bh (v':= .int .i64 ((n%64:Nat):Int)) (congrArg _ hV) (Rg.bg G G ?_)))))))));refine T.aP (ab G G (fU G G G (ad ?_)));refine bF G (λc8=>?_) (λc8=>?_)
   ·have Yg:=Nat.two_pow_pos (n%64);have hp3:2^(n%64)<2^64:=Nat.pow_lt_pow_right q0 hV;apply T.qS (M:=M1) mixed [] [cj.eq _,cj.eq _,cj.eq _,cj.eq (.slice (some ⟨ow,0,none⟩) vs.length vs.length),cj.eq _,cj.eq _,cj.eq _,cj.eq (.slice (some ⟨ow,0,none⟩) vs.length vs.length),cj.eq (.int .i64 vs.length),cj.eq (.int .i64 ((vs.length-1:Nat):Int)),cj.eq (.pointer (some ⟨ow,((vs.length-1:Nat):Int).toNat,none⟩)),cj.eq (.int .u64 ((vs.getD (vs.length-1) 0:Nat):Int)),cj.eq _,cj.eq (.int .u64 ((2^(n%64):Nat):Int)),cj.eq (.int .u64 ((2^(n%64)-1:Nat):Int)),cj.eq (.int .u64 (((vs.getD (vs.length-1) 0%2^(n%64)):Nat):Int)),cj.eq (.pointer (some ⟨ow,((vs.length-1:Nat):Int).toNat,none⟩))] 17
    ·rfl
    ·rfl
    ·rfl
    ·rfl
    ·rfl
    ·exact a86
    ·exact qA
    ·refine ay ?_ ?_
     ·intro wD E sD;refine ab G G ?_;exact a00
     refine ay ?_ ?_
     ·intro wD E sD;refine aq (aW G ⟨_,G⟩ G ?_);exact a00
     refine ay ?_ ?_
     ·intro wD E sD;refine aq (aT fE G G Cr q0 G G ?_);exact a00
     refine ay ?_ ?_
     ·intro wD E sD;refine aq (aG dM G G G (bY sD Ub) G ?_);exact a00
     refine ay ?_ ?_
     ·intro wD E sD;refine ab G G ?_;exact a00
     refine ay ?_ ?_
     ·intro wD E sD;refine aq (aW G ⟨_,G⟩ G ?_);exact a00
     refine ay ?_ ?_
     ·intro wD E sD;refine aq (aT fE G G Cr q0 G G ?_);exact a00
     refine ay ?_ ?_
     ·intro wD E sD;refine aq (aG dM G G G (bY sD Ub) G ?_);exact a00
     refine ay ?_ ?_
     ·intro wD E sD;refine aq (Rg.uE dM G G ?_);exact a00
     refine ay ?_ ?_
     ·intro wD E sD;refine aq (jw G G G hV (bh (v':= .int .i64 ((vs.length-1:Nat):Int)) (congrArg _ hV) ?_));exact a00
     refine ay ?_ ?_
     ·intro wD E sD;refine aq (aq (Rg.BP dM tM G G G hV ?_));exact a00
     refine ay ?_ ?_
     ·intro wD E sD;refine aq (aG ru rfl rfl rfl (sD.aB Cs.w) (v:= .int .u64 ((vs.getD (vs.length-1) 0:Nat):Int)) (by rw[aw];exact iY hV) ?_);exact a00
     refine ay ?_ ?_
     ·intro wD E sD;refine ab G G ?_;exact a00
     refine ay ?_ ?_
     ·intro wD E sD;refine aq (Rg.shl G G G hV (bh (v':= .int .u64 ((2^(n%64):Nat):Int)) (congrArg _ (Zf _ hV)) ?_));exact a00
     refine ay ?_ ?_
     ·intro wD E sD;refine aq (Rg.Ul rfl rfl rfl (bh (v':= .int .u64 ((2^(n%64)-1:Nat):Int)) (congrArg _ (by rw[show((2^(n%64):Nat):Int)-1=((2^(n%64)-1:Nat):Int)from by omega,BR,Nat.mod_eq_of_lt hV])) ?_));exact a00
     refine ay ?_ ?_
     ·intro wD E sD;refine aq (aq (Rg.and G G G (bh (v':= .int .u64 (((vs.getD (vs.length-1) 0%2^(n%64)):Nat):Int)) (congrArg _ (by rw[FI _ _ (Cs.ok.get _) hV,Nat.and_two_pow_sub_one_eq_mod])) ?_)));exact a00
     refine ay ?_ ?_
     ·intro wD E sD;refine aq (aq (aq (aq (aq (aq (aq (aq (aq (aq (aq (aq ?_)))))))))));refine aq (aq (aq (aq (aq (aq (Rg.BP dM tM G G G hV ?_))))));exact a00
     exact jS
    ·intro Yu Ig;refine aq (aq (aq (aq (aq (aq (aq (aq (aq (aq (aq (aq ?_)))))))))));refine aq (aq (aq (aq (aq ?_))));refine cg (M:=M1) (u:= .int .u64 ((vs.getD (vs.length-1) 0:Nat):Int)) tM rfl rfl (Ig.aB Cs.w) (by rw[aw];exact iY hV) G Cs.mw (λw9 hW9 s9=>?_);rw[aw,rM]at hW9;refine ad (T.aP (ab G G (Rg.bg G G (aJ ?_))));have C1:k=ws.length:=by omega
     first
     |exact aM rfl rfl ⟨os,ow,vs.set (vs.length-1) (vs.getD (vs.length-1) 0%2^(n%64)),rfl,z1,z2,by rw[<-Ao];exact(s1.ch S2 (λb hb=>by omega)).ax Ig |>.ch s9 (λb hb=>by omega),by rw[<-Ao];exact(Cs.step Ig (λh=>h) (λh=>h)).put s9 (by simp) hW9 (Cs.ok.set (Nat.lt_of_le_of_lt (Nat.mod_le _ _) (Cs.ok.get _))),λj=>Bh hlen k9 hV (by rw[<-C1];exact uI) j⟩
     |exact aM rfl rfl ⟨os,ow,vs,rfl,z1,z2,by rw[<-Ao];exact s1.ch S2 (λb hb=>by omega),by rw[<-Ao];exact Cs,λj=>EL hlen hV (by rw[<-C1];exact uI) (by rw[<-C1];exact CR) j⟩
   ·refine aR (T.aP (ab G G (Rg.bg G G (aJ ?_))));have C1:k=ws.length:=by omega
    first
    |exact aM rfl rfl ⟨os,ow,vs.set (vs.length-1) (vs.getD (vs.length-1) 0%2^(n%64)),rfl,z1,z2,by rw[<-Ao];exact(s1.ch S2 (λb hb=>by omega)).ax Ig |>.ch s9 (λb hb=>by omega),by rw[<-Ao];exact(Cs.step Ig (λh=>h) (λh=>h)).put s9 (by simp) hW9 (Cs.ok.set (Nat.lt_of_le_of_lt (Nat.mod_le _ _) (Cs.ok.get _))),λj=>Bh hlen k9 hV (by rw[<-C1];exact uI) j⟩
    |exact aM rfl rfl ⟨os,ow,vs,rfl,z1,z2,by rw[<-Ao];exact s1.ch S2 (λb hb=>by omega),by rw[<-Ao];exact Cs,λj=>EL hlen hV (by rw[<-C1];exact uI) (by rw[<-C1];exact CR) j⟩
theorem J7 {M:aH} {w0:World} {n:Nat} (hn:n<=1099511627776):
  Spec Tryz.prog 118 #[.int .i64 n] w0 (λv' w'=>∃os ow xh M',v'= .pointer (some ⟨os,0,none⟩)/\w0.heap.size<=os/\w0.heap.size<=ow/\Step M w0 M' w' aE/\jm 128 205 n xh M' w' os ow/\∀j,bit xh j=decide (j<n)):=by
 refine a8 (args:=[_]) (fn:=Tryz.f118) Tryz.func118 G (n:=6) Tryz.ntmps118 (T.aP (Rg.bg G G (T.aP (ab G G ?_))));refine aQ G G E20 (Bg (M:=M) hn) (λr1 w1 h=>?_);obtain⟨bs,bw,rfl,z1,z2,s1,h1⟩:=h;refine aQ G G ajr (J6 h1) (λr2 w2 h=>?_);obtain⟨os,ow,xh,rfl,z3,z4,s2,h2,hb⟩:=h;have y1:=s1.size;refine Rg.bg G G (aJ ?_);exact aM rfl rfl ⟨os,ow,xh,_,rfl,by omega,by omega,s1.ax s2,h2,λj=>by rw[hb j,Df];simp⟩
end Go.K
namespace Go.K
open Go.Proofs
namespace TKLiveB
theorem abU:Enters Tryz.prog 108:=enters Tryz.func108 rfl q0
theorem abV:Enters Tryz.prog 118:=enters Tryz.func118 rfl q0
theorem abW:Enters Tryz.prog 119:=enters Tryz.func119 rfl q0
end TKLiveB
open TKLiveB
set_option maxRecDepth 10000
end Go.K
namespace Go.K
open Go.Proofs
set_option maxRecDepth 10000
theorem OC {r:Int} (h:1<=r):∀x∈Lib.encodeRuneZ r,1<=x/\x<=255:=by
 intro x hx;unfold Lib.encodeRuneZ at hx
 split at hx
 ·simp at hx;omega
 ·split at hx
  ·simp at hx;omega
  ·split at hx
   ·simp at hx;omega
   ·split at hx
    ·simp at hx;omega
    ·simp at hx;omega
theorem W6 {r:Int} (h:1<=r):(0:UInt8)∉Lib.encodeRune r:=λhm=>by
 unfold Lib.encodeRune at hm;obtain⟨x,hx,uv⟩:=cx.1 hm;obtain⟨h1,h2⟩:=OC h x hx;have:=congrArg UInt8.toNat uv;simp at this;omega
theorem RV {c:Int} (h:1<=c):1<=qp c:=by unfold qp;split<;>omega
theorem OD {l:List Int} (h:∀c∈l,1<=c):(0:UInt8)∉gL l:=λhm=>by
 unfold gL at hm;obtain⟨c,hc,hx⟩:=List.mem_flatMap.1 hm;exact W6 (RV (h c hc)) hx
theorem J8 {c:Int} (h:fC c=true\/lL c=true):1<=dZ c:=by
 have:1<=c:=by
  rcases h with h|h
  ·unfold fC at h;simp at h;omega
  ·unfold lL at h;simp at h;omega
 unfold dZ;split<;>omega
theorem RW (l:List Int):∀p:List Int×List (List UInt8),(∀c∈p.1,1<=c)->(∀w∈p.2,(0:UInt8)∉w)->(∀c∈(l.foldl eF p).1,1<=c)/\∀w∈(l.foldl eF p).2,(0:UInt8)∉w:=by
 induction l with
 |nil=>intro p h1 h2;exact⟨h1,h2⟩
 |cons c l ih=>
  intro p h1 h2;rw[pC];refine ih _ ?_ ?_
  ·unfold eF
   split
   ·rename_i hc
    intro x hx;rcases dw.1 hx with hx|hx
    ·exact h1 x hx
    ·rw[cO.1 hx];exact J8 hc
   ·split<;>(intro x hx;cases hx)
  ·unfold eF
   split
   ·exact h2
   ·split
    ·intro w hw;rcases dw.1 hw with hw|hw
     ·exact h2 w hw
     ·rw[cO.1 hw];exact OD h1
    ·exact h2
theorem EM (l:List UInt8):∀w∈words l,(0:UInt8)∉w:=(RW _ ([],[]) (λc h=>by cases h) (λw h=>by cases h)).2
theorem EN {a b:Fd} (ha:KN a) (PW:(0:UInt8)∉a.2) (h:cZ a=cZ b):a=b:=by
 have h1:(cZ a).count 0=1:=by
  unfold cZ;rw[List.count_append,List.count_append,List.count_eq_zero.2 ha,List.count_eq_zero.2 PW];simp
 have h2:(cZ b).count 0=b.1.count 0+1+b.2.count 0:=by
  unfold cZ;rw[List.count_append,List.count_append];simp
 rw[h]at h1;exact tw ha (show KN b from List.count_eq_zero.1 hV) h
theorem sk {fs:List Fd} {t:Fd}:t∈(cB fs).map (·.1)↔∃f∈fs,f.1=t.1/\t.2∈words f.2:=by
 unfold cB gz;constructor
 ·intro h;obtain⟨p,hp,rfl⟩:=cx.1 h;obtain⟨f,hf,hp⟩:=List.mem_flatMap.1 hp;obtain⟨q,hq,rfl⟩:=cx.1 hp;exact⟨f,hf,G,(List.mem_zipIdx hq).2.2▸List.getElem_mem _⟩
 ·rintro⟨f,hf,h1,h2⟩;obtain⟨i,hi,he⟩:=List.mem_iff_getElem.1 h2;refine cx.2 ⟨((f.1,t.2),i),List.mem_flatMap.2 ⟨f,hf,cx.2 ⟨(t.2,i),?_,rfl⟩⟩,by rw[h1]⟩;rw[List.mem_zipIdx_iff_getElem?];simp[hi,he]
theorem Bi {ws:List (List UInt8)} {x:List UInt8}:0<(jc ws x).length↔x∈ws:=by
 unfold jc;rw[bW,List.length_pos_iff_exists_mem];constructor
 ·rintro⟨p,hp⟩;obtain⟨h1,h2⟩:=jG.1 hp;have h2:p.1=x:=by simpa using h2
  rw[<-h2];rw[List.mem_zipIdx_iff_getElem?]at h1;exact ao h1
 ·intro h;obtain⟨i,hi⟩:=bO.1 h;exact⟨(x,i),jG.2 ⟨by rw[List.mem_zipIdx_iff_getElem?];exact hi,by simp⟩⟩
theorem EO {d:Dc} (h:iC d) {k x:List UInt8}:x∈dX d.2 k↔∃f∈d.2,f.1=k/\x∈words f.2:=by
 unfold dX;constructor
 ·intro hx
  split at hx
  ·rename_i f hf
   exact⟨f,List.mem_of_find?_eq_some hf,by simpa using List.find?_some hf,hx⟩
  ·cases hx
 ·rintro⟨f,hf,h1,h2⟩
  split
  ·rename_i g hg
   have hg1:=List.mem_of_find?_eq_some hg;have hg2:g.1=k:=by simpa using List.find?_some hg
   have:g=f:=by
    obtain⟨i,hi⟩:=bO.1 hg1;obtain⟨j,hj⟩:=bO.1 hf
    have jf:i=j:=by
     refine(List.getElem?_inj (by rw[bW];exact(al.1 hi).1) h.once).1 ?_;rw[eN,eN,hi,hj];simp[hg2,h1]
    subst jf;rw[hi]at hj;exact aK hj
   rw[this];exact h2
  ·rename_i hn
   rw[List.find?_eq_none]at hn;exact absurd h1 (by simpa using hn f hf)
theorem OE {d:Dc} (h:iC d) (i:Nat) (t:Fd):D6 i (cB d.2) (cZ t)≠[]↔0<(jc (dX d.2 t.1) t.2).length:=by
 rw[Bi,EO h];constructor
 ·intro fq;rcases xm h i (cZ t)with h1|⟨u,hu,hk,_⟩
  ·exact absurd h1 fq
  ·have IY:=(iG h.H3).1 hu;obtain⟨f,hf,IT,Lq⟩:=sk.1 IY;have e:u=t:=EN (by obtain⟨p,hp,rfl⟩:=cx.1 IY;exact h.H3 p hp) (EM _ _ Lq) hk;rw[<-e];exact⟨f,hf,IT,Lq⟩
 ·rintro⟨f,hf,h1,h2⟩;exact MZ ((iG h.H3).2 (sk.2 ⟨f,hf,h1,h2⟩))
section
variable {P:Program} {r:Option Nat} {n:Nat} {L:Sl} {ds:List Deferred} {w:World} {K:Kt} {ops:Array Oper} {rest:List Oper} {d:Nat} {x y:Operand} {ty:TypeId} {pos:String} {af:Array Edge}
theorem J9 {t:TypeId} {f' g':Field} (hu:P.underlying t=some (.struct #[f',g'])) (hpu:P.stoodInHeld t=false) (hm:f'.name≠ "_") (CE:g'.name≠ "_")
  (o3:f'.offset=0) (o4:g'.offset=1) (s1:P.underlying f'.type=some .string) (s2:P.underlying g'.type=some .string) (a b a' b':List UInt8):
  (Op.equalIn 10000 t (.agg #[.string ⟨a.toArray⟩,.string ⟨b.toArray⟩]) (.agg #[.string ⟨a'.toArray⟩,.string ⟨b'.toArray⟩])).run P w= .ok (decide ((a,b)=(a',b'))) w:=by
 have h1:(Op.equalIn (9999+1) t (.agg #[.string ⟨a.toArray⟩,.string ⟨b.toArray⟩]) (.agg #[.string ⟨a'.toArray⟩,.string ⟨b'.toArray⟩])).run P w= .ok (decide (a=a')&&decide (b=b')) w:=
  EK (k:=9998+1) (a:= .string ⟨a.toArray⟩) (b:= .string ⟨a'.toArray⟩) (a':= .string ⟨b.toArray⟩) (b':= .string ⟨b'.toArray⟩) hu hpu hm CE (k4 s1 (by rw[o3];rfl)) (k4 s1 (by rw[o3];rfl)) (k4 s2 (by rw[o4];rfl)) (k4 s2 (by rw[o4];rfl))
   (by rw[run_equalIn_string w 9998 _ _ _ s1,Im]) (by rw[run_equalIn_string w 9998 _ _ _ s2,Im])
 rw[show(10000:Nat)=9999+1 from rfl,h1];congr 1;by_cases e1:a=a'<;>by_cases e2:b=b'<;>simp[e1,e2]
theorem Rg.ajv {t t':TypeId} {f' g':Field} {p q:List UInt8×List UInt8} (hu:P.underlying t=some (.struct #[f',g'])) (hpu:P.stoodInHeld t=false) (hq:P.eqGuardType P.depth t=false) (hm:f'.name≠ "_") (CE:g'.name≠ "_")
  (o3:f'.offset=0) (o4:g'.offset=1) (s1:P.underlying f'.type=some .string) (s2:P.underlying g'.type=some .string)
  (hx:ev L x=some (.agg #[.string ⟨p.1.toArray⟩,.string ⟨p.2.toArray⟩])) (hy:ev L y=some (.agg #[.string ⟨q.1.toArray⟩,.string ⟨q.2.toArray⟩])) (hd:Nat.blt d n=true)
  (k:Rg P r n ops rest ((d,.bool (decide (p=q)))::L) ds w K):
  Rg P r n ops ({dst:=some d,op:= .binOp .eql t x y t',type:=ty,pos,after:=af,guard:=none}::rest) L ds w K:=
 .op a04 rfl rfl hd _ w (λρ h=>by
  have he:(Op.equalIn 10000 t (.agg #[.string ⟨p.1.toArray⟩,.string ⟨p.2.toArray⟩]) (.agg #[.string ⟨q.1.toArray⟩,.string ⟨q.2.toArray⟩])).run P w= .ok (decide (p=q)) w:=J9 (P:=P) (w:=w) hu hpu hm CE o3 o4 s1 s2 p.1 p.2 q.1 q.2;simp only[execOp];rw[h x _ hx,h y _ hy];rw[cA,cA,run_eqGuard_agg (P:=P) w .eql t x y _ _ hq];simp only[run_eql_struct,he,cT,cA,l7]) k
variable {N:aH} {wd:World} {dst:Option Nat} {gd:Option (Nat×Bool)}
end
theorem OF {fs:List Fd} (h:(fs.map (·.1)).Nodup) (t:Fd):jc (dX fs t.1) t.2=posOf (cB fs) t:=by
 induction fs with
 |nil=>rfl
 |cons x fs ih=>
  have h':=List.nodup_cons.1 h;have e:posOf (cB (x::fs)) t=posOf (gz x) t++posOf (cB fs) t:=by show posOf (gz x++cB fs) t=_;rw[oB]
  by_cases hx:x.1=t.1
  ·rw[e,uT λy hy e=>h'.1 (by have h9:y.1∈fs.map (·.1):=fL hy;rw[e,<-hx]at h9;exact h9),fz];rw[EI (i:=0) (x:=x) rfl hx (λj y hj=>absurd hj (fB _))];unfold jc posOf gz;rw[List.filter_map,List.map_map];congr 1;refine List.filter_congr λp _=> ?_
   show decide (p.1=t.2)=decide ((x.1,p.1)=t);refine decide_eq_decide.2 ⟨λe=>?_,λe=>?_⟩
   ·rw[hx,e]
   ·rw[<-e]
  ·rw[e,sd hx,iH,<-ih h'.2];congr 1;unfold dX;rw[List.find?_cons_of_neg ad1]
def Db (a b:List Fo) (d:Int):Int:=(if rN a d then 1 else 0)+(if rN b d then 1 else 0)
def Ct (d:Int):Int:=if d<0 then-(d+1)else d
def TU (l:List Int):Prop:=l.Pairwise (· < ·)/\(∀x∈l,0<=x/\x<1000000)/\l.length<=1000
def OG (tl:List (List Int)) (x:Int) (n:Nat):Bool:=(List.range n).all λk=>(tl.getD k []).contains (x+1+k)
theorem tN (tl:List (List Int)) (x:Int) (n:Nat):OG tl x (n+1)=(OG tl x n&&(tl.getD n []).contains (x+1+n)):=by simp[OG,List.range_succ]
def As (tl:List (List Int)) (l:List Int) (n:Nat):Nat:=((l.take n).filter λx=>OG tl x tl.length).length
def Ip:List (List Int)->Nat
 |[]=>0
 |l::tl=>As tl l l.length
theorem qv {tl:List (List Int)} {l:List Int} {n:Nat} {x:Int} (h:l[n]? =some x):As tl l (n+1)=As tl l n+if OG tl x tl.length then 1 else 0:=by
 obtain⟨h1,h2⟩:=al.1 h;unfold As;rw[gC h1,h2,gZ,bG];congr 1;by_cases hx:OG tl x tl.length=true
 ·rw[if_pos hx];simp[List.filter,hx]
 ·rw[if_neg hx];simp[List.filter,hx]
theorem RX (tl:List (List Int)) (l:List Int) (n:Nat):As tl l n<=n:=by
 unfold As;refine du (fi _ _) ?_;rw[a7];omega
theorem ajw (n:Nat):((n:Int)).fdiv (2^min (Int.toNat 1) IntKind.u64.bits)=((n/2:Nat):Int):=by
 change Int.fdiv (n:Int) 2=_;rw[Int.fdiv_eq_ediv_of_nonneg _ q0];omega
theorem Cv {l:List Int} (h:l.Pairwise (· < ·)) {i j:Nat} {x y:Int} (hx:l[i]? =some x) (hy:l[j]? =some y) (jf:i<j):x<y:=by
 obtain⟨h1,h2⟩:=al.1 hx;obtain⟨h3,h4⟩:=al.1 hy;rw[<-h2,<-h4];exact(List.pairwise_iff_getElem.1 h) i j h1 h3 jf
theorem G2 {l:List Int} (h:l.Pairwise (· < ·)) {x:Int} {i:Nat} (h1:∀t y,t<i->l[t]? =some y->y<x) (h2:∀t y,i<=t->l[t]? =some y->x<=y):l.contains x=decide (l[i]? =some x):=by
 rw[jF,fS,decide_eq_true_iff];constructor
 ·intro hm;obtain⟨t,ht⟩:=bO.1 hm;rcases fk t i with h3|h3|h3
  ·have:=h1 t x h3 ht;omega
  ·rw[<-h3];exact ht
  ·have hl:=(al.1 ht).1;obtain⟨y,hy⟩:∃y,l[i]? =some y:=⟨_,an hV⟩;have:=Cv h hy ht h3;have:=h2 i y (br _) hy;omega
 ·exact λhm=>ao hm
theorem W7 {M:aH} {w:World} {d s:Int} {v:Value} (h:RT.fo.V M w (d,s) v):v= .agg #[.int .i64 d,.int .i64 s]:=by
 obtain⟨vs,⟨va,vb,rfl,⟨rfl,hd⟩,⟨rfl,hb⟩⟩,rfl⟩:=h;rfl
section
variable {P:Program} {r:Option Nat} {n:Nat} {L:Sl} {ds:List Deferred} {w:World} {K:Kt} {ops:Array Oper} {rest:List Oper} {d:Nat} {x y:Operand} {ty:TypeId} {pos:String} {af:Array Edge}
theorem Rg.abX {t t':TypeId} {a b:Value} {c:Bool} (hg:∀w,(eqGuard .eql t x y a b).run P w= .ok () w) (he:∀w,(binOp .eql t a b).run P w= .ok (.bool c) w) (hx:ev L x=some a) (hy:ev L y=some b) (hd:Nat.blt d n=true)
  (k:Rg P r n ops rest ((d,.bool c)::L) ds w K):
  Rg P r n ops ({dst:=some d,op:= .binOp .eql t x y t',type:=ty,pos,after:=af,guard:=none}::rest) L ds w K:=
 .op a04 rfl rfl hd _ w (λρ h=>by
  simp only[execOp];rw[h x _ hx,h y _ hy];rw[cA,cA,hg];simp[he]) k
end
def gg (f:En->Option Int):Nat->List En->List Fo
 |_,[]=>[]
 |i,e::L=>match f e with
  |some s=>((i:Int),s)::gg f (i+1) L
  |none=>gg f (i+1) L
theorem xu {f:En->Option Int} {p:Fo}:∀{L:List En} {i:Nat},p∈gg f i L↔∃(d:Nat) (e:En),L[d]? =some e/\p.1=((i+d:Nat):Int)/\f e=some p.2
 |[],i=>by simp[gg]
 |e::L,i=>by
  have key:p∈gg f i (e::L)↔(p.1=(i:Int)/\f e=some p.2)\/p∈gg f (i+1) L:=by
   rw[gg]
   cases he:f e with
   |none=>simp
   |some s=>
    rw[cY];constructor
    ·rintro(h|h)
     ·exact .inl ⟨by rw[h],by rw[h]⟩
     ·exact .inr h
    ·rintro(⟨h1,h2⟩|h)
     ·exact .inl (Prod.ext h1 (by simpa using h2.symm))
     ·exact .inr h
  rw[key,xu (L:=L)];constructor
  ·rintro(⟨h1,h2⟩|⟨d,x,h1,h2,h3⟩)
   ·exact⟨0,e,G,h1,h2⟩
   ·exact⟨d+1,x,by simpa using h1,by rw[h2];congr 1;omega,h3⟩
  ·rintro⟨d,x,h1,h2,h3⟩
   cases d with
   |zero=>simp at h1;subst h1;exact .inl ⟨h2,h3⟩
   |succ d=>exact .inr ⟨d,x,by simpa using h1,by rw[h2];congr 1;omega,h3⟩
theorem qw {f:En->Option Int} {L:List En} {i:Nat} {p:Fo} (h:p∈gg f i L):(i:Int)<=p.1/\p.1<i+L.length:=by
 obtain⟨d,e,h1,h2,_⟩:=xu.1 h;have:=(al.1 h1).1;omega
theorem OH {f:En->Option Int}:∀(L:List En) (i:Nat),(gg f i L).Pairwise λa b=>a.1<b.1
 |[],_=>List.Pairwise.nil
 |e::L,i=>by
  rw[gg]
  split
  ·refine jr.2 ⟨λp hp=>?_,OH L (i+1)⟩;have:=qw hp;simp only;omega
  ·exact OH L (i+1)
theorem ky {f:En->Option Int}:∀(L:List En) (i:Nat),(gg f i L).length<=L.length
 |[],_=>br _
 |e::L,i=>by
  have:=ky (f:=f) L (i+1);rw[gg]
  split<;>simp only[cz]<;>omega
theorem kq {f g:En->Option Int}:∀{L:List En} {i:Nat},(∀e∈L,f e=g e)->gg f i L=gg g i L
 |[],_,_=>rfl
 |e::L,i,h=>by rw[gg,gg,h e (bL ..),kq (L:=L) λx hx=>h x (cn _ hx)]
def qg (f:En->Option Int) (i:Nat) (e:En):List Fo:=match f e with
 |some s=>[((i:Int),s)]
 |none=>[]
theorem oM {f:En->Option Int} {e:En}:∀(L:List En) (i:Nat),gg f i (L++[e])=gg f i L++qg f (i+L.length) e
 |[],i=>by
  show gg f i [e]=[]++_;rw[gg,gg,qg];cases f e<;>simp
 |x::L,i=>by
  rw[ng,gg,gg,oM L (i+1),show i+1+L.length=i+(x::L).length by simp only[cz];omega]
  cases f x<;>simp
theorem l1 {f:En->Option Int} {L:List En} {i:Nat} {e:En} (h:L[i]? =some e):gg f 0 (L.take (i+1))=gg f 0 (L.take i)++qg f i e:=by
 have hi:=(al.1 h).1;rw[bX,h,dx,oM,a7,xA (Nat.le_of_lt hi),nd]
theorem abY {l:List Fo} {x i:Int} (h:∀p∈l,i<=p.1) (hx:i<=x):i<=mn l x:=by
 unfold mn
 cases l with
 |nil=>exact hx
 |cons p l=>have:=h p (bL ..);simp only;omega
theorem Iq {l:List Fo} {x:Int} (h:∀p∈l,x<=p.1):mn l x=x:=by
 unfold mn
 cases l with
 |nil=>rfl
 |cons p l=>have:=h p (bL ..);simp only;omega
theorem OI {l:List Fo} {x:Int} (h:∀p∈l,x<p.1):hit l x=false:=by
 unfold hit
 cases l with
 |nil=>rfl
 |cons p l=>have:=h p (bL ..);simp only[decide_eq_false_iff_not];omega
theorem Ir {l:List Fo} {x:Int} (h:hit l x=false):fJ l x=l:=by unfold fJ;rw[h];rfl
theorem xv {x:Int} (h:0<=x/\x<=9223372036854775807):IntKind.i64.wrap x=x:=by
 show(if(true&&decide (x%18446744073709551616>=9223372036854775808))=true then x%18446744073709551616-18446744073709551616 else x%18446744073709551616)=x;rw[Int.emod_eq_of_lt h.1 hV,if_neg a08]
def OJ (a b:Option Int):Option Int:=match a,b with
 |some x,some y=>some (x+y)
 |_,_=>none
def orO (a b:Option Int):Option Int:=match a,b with
 |none,none=>none
 |a,b=>some (a.getD 0+b.getD 0)
def nP (least:Int) (a b:Option Int):Option Int:=if least<=1 then orO a b else OJ a b
theorem Is {least:Int} (hl:least=1\/least=2) {f g:En->Option Int}:∀(L:List En) (i:Nat),i+L.length<=2147483648->(∀e∈L,∀s,(f e=some s\/g e=some s)->0<=s/\s<=4611686018427387903)->CN least (gg f i L) (gg g i L)=gg (λe=>nP least (f e) (g e)) i L
 |[],i,_,_=>rfl
 |e::L,i,hi,hb=>by
  have ih:=Is hl (f:=f) (g:=g) L (i+1) (by simp only[cz]at hi;omega) λx hx=>hb x (cn _ hx)
  simp only[cz]at hi;have ra:∀p∈gg f (i+1) L,(i:Int)<p.1:=λp hp=>by have:=qw hp;omega
  have rb:∀p∈gg g (i+1) L,(i:Int)<p.1:=λp hp=>by have:=qw hp;omega
  have oa:qW (gg f (i+1) L):=λp hp=>by have:=qw hp;omega
  have ob:qW (gg g (i+1) L):=λp hp=>by have:=qw hp;omega
  have hbe:=hb e (bL ..);rw[gg,gg,gg];generalize gg f (i+1) L=a at ih ra oa;generalize gg g (i+1) L=b at ih rb ob
  have ca:∀x:Int,qW (((i:Int),x)::a):=λx p hp=>by
   rcases cY.1 hp with rfl|hp
   ·simp only;omega
   ·exact oa p hp
  have cb:∀x:Int,qW (((i:Int),x)::b):=λx p hp=>by
   rcases cY.1 hp with rfl|hp
   ·simp only;omega
   ·exact ob p hp
  have la:=λx hx=>abY (l:=a) (x:=x) (i:=(i:Int)) (λp hp=>by have:=ra p hp;omega) hx
  have na:=OI ra;have nb:=OI rb;have h0:mn a (i:Int)=i:=Iq λp hp=>by have:=ra p hp;omega
  have h1:mn b (i:Int)=i:=Iq λp hp=>by have:=rb p hp;omega
  have hc:∀(x:Int) (l:List Fo),hit (((i:Int),x)::l) i=true:=λx l=>by simp[hit]
  have hr:∀(x:Int) (l:List Fo),fJ (((i:Int),x)::l) i=l:=λx l=>by unfold fJ;rw[hc];rfl
  have m0:min (2147483648:Int) (i:Int)=i:=by omega
  cases hf:f e with
  |none=>
   cases hg:g e with
   |none=>
    have:nP least none none=none:=by unfold nP;split<;>rfl
    simp only[this];exact ih
   |some y=>
    have hy:=hbe y (.inr hg)
    have hx:iT a (((i:Int),y)::b)=i:=by
     show min (mn a 2147483648) (i:Int)=i;have:=la 2147483648 hV;omega
    have hm:qU a (((i:Int),y)::b) 2=1:=by simp[qU,nz,hx,na,hc]
    have hs:qV a (((i:Int),y)::b) 2=y:=by
     simp only[qV,ny,hx,na,hc];simp;exact xv hV
    show CN least a (((i:Int),y)::b)=_;rw[tc oa (cb y) (.inr (by simp)),hx,hm,hs,Ir na,hr,ih];rcases hl with rfl|rfl
    ·simp[nP,orO]
    ·simp[nP,OJ]
  |some x=>
   have Mw:=hbe x (.inl hf)
   cases hg:g e with
   |none=>
    have hx:iT (((i:Int),x)::a) b=i:=by
     show mn b (min 2147483648 (i:Int))=i;rw[m0,h1]
    have hm:qU (((i:Int),x)::a) b 2=1:=by simp[qU,nz,hx,nb,hc]
    have hs:qV (((i:Int),x)::a) b 2=x:=by
     simp only[qV,ny,hx,nb,hc];simp;exact xv hV
    show CN least (((i:Int),x)::a) b=_;rw[tc (ca x) ob (.inl (by simp)),hx,hm,hs,Ir nb,hr,ih];rcases hl with rfl|rfl
    ·simp[nP,orO]
    ·simp[nP,OJ]
   |some y=>
    have hy:=hbe y (.inr hg)
    have hx:iT (((i:Int),x)::a) (((i:Int),y)::b)=i:=by
     show min (min 2147483648 (i:Int)) (i:Int)=i;omega
    have hm:qU (((i:Int),x)::a) (((i:Int),y)::b) 2=2:=by simp[qU,nz,hx,hc]
    have hs:qV (((i:Int),x)::a) (((i:Int),y)::b) 2=x+y:=by
     simp only[qV,ny,hx,hc];simp;rw[xv (x:=x) hV,xv hV]
    show CN least (((i:Int),x)::a) (((i:Int),y)::b)=_;rw[tc (ca x) (cb y) (.inl (by simp)),hx,hm,hs,hr,hr,ih];rcases hl with rfl|rfl
    ·simp[nP,orO]
    ·simp[nP,OJ]
def RY (a:Option Int):Option Int:=match a with
 |some _=>none
 |none=>some 0
theorem OK {f:En->Option Int} {L:List En} {d:Nat} {e:En} (h:L[d]? =some e):rN (gg f 0 L) (d:Int)=(f e).isSome:=by
 rw[jF];unfold rN;rw[nf];constructor
 ·rintro⟨p,hp,hd⟩;obtain⟨d',x,h1,h2,h3⟩:=xu.1 hp;have hd:p.1=(d:Int):=by simpa using hd
  obtain rfl:d'=d:=by omega
  rw[h]at h1;cases h1;rw[h3];rfl
 ·intro hs;obtain⟨s,hs⟩:=Option.isSome_iff_exists.1 hs;exact⟨((d:Int),s),xu.2 ⟨d,e,h,by simp,hs⟩,by simp⟩
theorem Bj {f:En->Option Int} {L:List En}:∀k,k<=L.length->pT (gg f 0 L) k=gg (λe=>RY (f e)) 0 (L.take k)
 |0,_=>by simp[pT,gg]
 |k+1,hk=>by
  obtain⟨e,he⟩:∃e,L[k]? =some e:=⟨_,an hV⟩;have ih:=Bj (f:=f) (L:=L) k hV;rw[l1 he,<-ih];unfold pT;rw[List.range_succ,gZ,eu];congr 1;rw[List.filter_cons,OK he,qg]
  cases f e<;>simp[RY]
theorem OL {f:En->Option Int} {L:List En}:pT (gg f 0 L) L.length=gg (λe=>RY (f e)) 0 L:=by
 rw[Bj _ (br _),bD (br _)]
theorem oN (ws:List (List UInt8)) (x:List UInt8):jc ws x=((List.range ws.length).filter λi=>decide (ws[i]? =some x)).map fun(i:Nat)=>(i:Int):=by
 have key:∀k,k<=ws.length->jc (ws.take k) x=((List.range k).filter λi=>decide (ws[i]? =some x)).map fun(i:Nat)=>(i:Int):=by
  intro k
  induction k with
  |zero=>intro _;simp[jc]
  |succ k ih=>
   intro hk;obtain⟨y,hy⟩:∃y,ws[k]? =some y:=⟨_,an hV⟩;rw[J4 hy,ih hV,List.range_succ,gZ,eu];by_cases e:y=x
   ·subst e;rw[if_pos rfl];simp[List.filter,hy]
   ·rw[if_neg e];simp[hy,e]
 have:=key ws.length (br _)
 rwa [bD (br _)]at this
theorem EP {ws:List (List UInt8)} {x:List UInt8} {i:Nat}:(jc ws x).contains (i:Int)=decide (ws[i]? =some x):=by
 rw[jF,fS,oN,decide_eq_true_iff];constructor
 ·intro h;obtain⟨j,hj,e⟩:=cx.1 h;have:=(jG.1 hj).2;obtain rfl:j=i:=by omega
  simpa using this
 ·intro h;exact cx.2 ⟨i,jG.2 ⟨List.mem_range.2 (al.1 h).1,by simpa using h⟩,rfl⟩
def OM (ws xs:List (List UInt8)) (n:Nat):Nat:=((List.range n).filter λi=>decide ((ws.drop i).take xs.length=xs)).length
def vv (ws xs:List (List UInt8)):Nat:=if xs=[]then 0 else OM ws xs ws.length
theorem RZ (ws xs:List (List UInt8)) (n:Nat):OM ws xs n<=n:=by
 unfold OM;exact du (fi _ _) (by simp)
theorem It (ws xs:List (List UInt8)):vv ws xs<=ws.length:=by
 unfold vv;split
 ·exact bm _
 ·exact RZ _ _ _
theorem W8 {ws:List (List UInt8)} {x:List UInt8} {tl:List (List UInt8)} {i:Nat}:(ws.drop i).take (x::tl).length=x::tl↔ws[i]? =some x/\∀k,k<tl.length->ws[i+1+k]? =tl[k]? :=by
 have hg:∀j,j<(x::tl).length->((ws.drop i).take (x::tl).length)[j]? =ws[i+j]? :=λj hj=>by rw[dI,if_pos hj,gY]
 constructor
 ·intro h;refine⟨?_,λk hk=>?_⟩
  ·have:=hg 0 (by simp);rw[h]at this;simpa using this.symm
  ·have:=hg (k+1) (by simpa using hk);rw[h]at this;rw[show i+1+k=i+(k+1) by omega,<-this];simp
 ·rintro⟨h1,h2⟩;apply iD;intro j;rcases cK j (x::tl).length with hj|hj
  ·rw[hg j hj]
   cases j with
   |zero=>simpa using h1
   |succ j=>rw[show i+(j+1)=i+1+j by omega,h2 j a90];simp
  ·rw[dE hj,dE (by rw[a7];omega)]
theorem ON {ws:List (List UInt8)} {tl:List (List UInt8)} {i:Nat}:OG (tl.map (jc ws)) (i:Int) (tl.map (jc ws)).length=true↔∀k,k<tl.length->ws[i+1+k]? =tl[k]? :=by
 unfold OG;rw[ew,bW];constructor
 ·intro h k hk;have:=h k (List.mem_range.2 hk);have o8:tl[k]? =some tl[k]:=an hk;rw[cu,eN,o8,show(i:Int)+1+(k:Int)=((i+1+k:Nat):Int) by omega]at this;simp only[fA,Option.getD_some]at this;rw[EP,decide_eq_true_iff]at this;rw[o8];exact this
 ·intro h k hk;have hk:=List.mem_range.1 hk;have o8:tl[k]? =some tl[k]:=an hk;rw[cu,eN,o8,show(i:Int)+1+(k:Int)=((i+1+k:Nat):Int) by omega];simp only[fA,Option.getD_some];rw[EP,decide_eq_true_iff,h k hk,o8]
theorem OO (ws:List (List UInt8)) (x:List UInt8) (tl:List (List UInt8)):Ip ((x::tl).map (jc ws))=vv ws (x::tl):=by
 rw[fe];show As _ _ _=_;unfold vv As OM;rw[if_neg (by simp),bD (br _)]
 conv=>lhs;rw[oN ws x]
 rw[List.filter_map,bW,List.filter_filter];congr 1;refine List.filter_congr λi _=> ?_
 rw[jF];simp only[Function.comp,b7,decide_eq_true_iff];rw[ON,W8];exact⟨λh=>⟨h.2,h.1⟩,λh=>⟨h.2,h.1⟩⟩
def wV (n:Nat):Option Int:=if 0<n then some (n:Int)else none
def pz (l:List (Option Int)):Int:=(l.map λo=>o.getD 0).sum
mutual
def fy (fs:List Fd):Qy->Option Int
 |.mk k t ws ks=>
  if k=1 then wV (jc (dX fs t.1) t.2).length
  else if k=5 then wV (vv (dX fs t.1) ws)
  else if k=2 then(if(tO fs ks).all Option.isSome=true then some (pz (tO fs ks))else none)
  else if k=3 then(if(tO fs ks).any Option.isSome=true then some (pz (tO fs ks))else none)
  else(if(tO fs ks).any Option.isSome=true then none else some 0)
def tO (fs:List Fd):List Qy->List (Option Int)
 |[]=>[]
 |q::ks=>fy fs q::tO fs ks
end
theorem zh (fs:List Fd):∀ks,tO fs ks=ks.map (fy fs)
 |[]=>by rw[tO];rfl
 |q::ks=>by rw[tO,zh fs ks];rfl
def cL (w:List UInt8):Bool:=decide (words w=[w]/\w.length<=30)
def j5 (k:Int) (t:Fd) (ws:List (List UInt8)) (n:Nat):Int:=
 if k<1\/5<k then 9
 else if 2<=k/\k<=4 then(if¬t=([],[])\/¬ws=[]\/n=0 then 9 else if 8<n\/(k=4/\1<n)then 7 else 0)
 else if 0<n\/(k=1/\¬ws=[])\/(k=5/\¬t.2=[])then 9
 else if eA t.1=false then 4
 else if k=1 then(if cL t.2=true then 0 else 9)
 else if ws=[]then 9 else if ws.all cL=false then 9 else if 6<ws.length then 7 else 0
mutual
def jk:Qy->Nat->Int
 |.mk k t ws ks,deep=>if 6<deep then 8 else if¬j5 k t ws ks.length=0 then j5 k t ws ks.length else tP ks (deep+1)
def tP:List Qy->Nat->Int
 |[],_=>0
 |q::ks,deep=>if¬jk q deep=0 then jk q deep else tP ks deep
end
def fu (k:Int):Int:=1+Ct k%5
def eP (s:List UInt8):List UInt8:=if eA s=true then s else[116]
def Iu (t:Fd):Qy:= .mk 1 (eP t.1,if cL t.2=true then t.2 else[97]) [] []
def jv (ws:List (List UInt8)):List (List UInt8):=(ws.take 3).filter cL
mutual
def fh:Qy->Nat->Qy
 |.mk k t ws ks,deep=>
  if(2<=fu k/\fu k<=4)/\deep<4/\¬ks=[]then .mk (fu k) ([],[]) [] ((oO ks (deep+1)).take (if fu k=4 then 1 else 3))
  else if fu k=5/\¬jv ws=[]then .mk 5 (eP t.1,[]) (jv ws) []
  else Iu t
def oO:List Qy->Nat->List Qy
 |[],_=>[]
 |q::ks,deep=>fh q deep::oO ks deep
end
theorem sm:∀(ks:List Qy) (deep:Nat),oO ks deep=ks.map λq=>fh q deep
 |[],_=>by rw[oO];rfl
 |q::ks,deep=>by rw[oO,sm ks deep];rfl
theorem zi:∀{ks:List Qy} {deep:Nat},tP ks deep=0↔∀q∈ks,jk q deep=0
 |[],_=>by rw[tP];simp
 |q::ks,deep=>by
  rw[tP,List.forall_mem_cons,<-zi (ks:=ks)];by_cases h:jk q deep=0
  ·rw[if_neg (λh'=>h' h)];simp[h]
  ·rw[if_pos h];simp[h]
theorem qx {k:Int} {t:Fd} {ws:List (List UInt8)} {ks:List Qy} {deep:Nat}:jk (.mk k t ws ks) deep=0↔deep<=6/\j5 k t ws ks.length=0/\∀q∈ks,jk q (deep+1)=0:=by
 rw[jk,<-zi];by_cases h:6<deep
 ·rw[if_pos h];constructor
  ·intro h';cases h'
  ·rintro⟨h',_⟩;omega
 ·rw[if_neg h];by_cases h2:j5 k t ws ks.length=0
  ·rw[if_neg (λh'=>h' h2)];exact⟨λh3=>⟨by omega,h2,h3⟩,λh3=>h3.2.2⟩
  ·rw[if_pos h2];exact⟨λh3=>absurd h3 h2,λh3=>h3.2.1⟩
theorem zj {k:Int} {t:Fd} {ws:List (List UInt8)} {n:Nat} (h:j5 k t ws n=0):(k=1/\n=0/\eA t.1=true/\cL t.2=true)\/(k=5/\n=0/\eA t.1=true/\¬ws=[]/\ws.all cL=true/\ws.length<=6)\/((k=2\/k=3)/\0<n/\n<=8)\/(k=4/\n=1):=by
 unfold j5 at h;by_cases h1:k<1\/5<k
 ·rw[if_pos h1]at h;cases h
 rw[if_neg h1]at h;by_cases h2:2<=k/\k<=4
 ·rw[if_pos h2]at h;by_cases h3: ¬t=([],[])\/¬ws=[]\/n=0
  ·rw[if_pos h3]at h;cases h
  rw[if_neg h3]at h;by_cases h4:8<n\/(k=4/\1<n)
  ·rw[if_pos h4]at h;cases h
  have h5: ¬n=0:=λe=>h3 (.inr (.inr e))
  by_cases h6:k=4
  ·exact .inr (.inr (.inr ⟨h6,by omega⟩))
  ·exact .inr (.inr (.inl ⟨by omega,by omega,by omega⟩))
 ·rw[if_neg h2]at h;by_cases h3:0<n\/(k=1/\¬ws=[])\/(k=5/\¬t.2=[])
  ·rw[if_pos h3]at h;cases h
  rw[if_neg h3]at h
  have hn:n=0:=by
   rcases Nat.eq_zero_or_pos n with h4|h4
   ·exact h4
   ·exact absurd (.inl h4) h3
  cases h4:eA t.1 with
  |false=>rw[if_pos h4]at h;cases h
  |true=>
   rw[if_neg (by rw[h4];decide)]at h;by_cases h5:k=1
   ·rw[if_pos h5]at h;by_cases h6:cL t.2=true
    ·exact .inl ⟨h5,hn,G,h6⟩
    ·rw[if_neg h6]at h;cases h
   ·rw[if_neg h5]at h;by_cases h6:ws=[]
    ·rw[if_pos h6]at h;cases h
    rw[if_neg h6]at h;by_cases h7:ws.all cL=false
    ·rw[if_pos h7]at h;cases h
    rw[if_neg h7]at h;by_cases h8:6<ws.length
    ·rw[if_pos h8]at h;cases h
    exact .inr (.inl ⟨by omega,hn,rfl,h6,by simpa using h7,by omega⟩)
def sq (deep:Nat):Int:=500*8^(7-deep)
theorem ER {l:List (Option Int)} {B:Int} (hB:0<=B) (h:∀o∈l,∀s,o=some s->0<=s/\s<=B):0<=pz l/\pz l<=l.length*B:=by
 unfold pz
 induction l with
 |nil=>simp
 |cons o l ih=>
  obtain⟨h1,h2⟩:=ih λx hx=>h x (cn _ hx)
  have h3:0<=o.getD 0/\o.getD 0<=B:=by
   cases o with
   |none=>exact⟨qi _,hB⟩
   |some s=>exact h _ (bL ..) s rfl
  have h4:((o::l).length:Int)*B=l.length*B+B:=by
   simp only[cz];rw[show((l.length+1:Nat):Int)=(l.length:Int)+1 by omega,Int.add_mul,Int.one_mul]
  rw[fe,List.sum_cons,h4];omega
theorem ES (deep:Nat):0<=sq deep:=by unfold sq;exact Int.mul_nonneg q0 (Int.pow_nonneg q0)
theorem Ka {deep:Nat} (h:deep<=6):sq deep=8*sq (deep+1):=by
 unfold sq;obtain⟨n,hn⟩:∃n,7-deep=n+1:=⟨7-deep-1,by omega⟩;rw[show 7-(deep+1)=n by omega,hn,Int.pow_succ];omega
theorem G3 {deep:Nat}:500<=sq deep:=by
 unfold sq;have:(0:Int)<8^(7-deep):=Int.pow_pos q0;omega
theorem Kb {deep:Nat} (h:1<=deep):sq deep<=131072000:=by
 unfold sq;have:deep=1\/deep=2\/deep=3\/deep=4\/deep=5\/deep=6\/7<=deep:=by omega
 rcases this with rfl|rfl|rfl|rfl|rfl|rfl|h
 all_goals try decide
 rw[show 7-deep=0 by omega];decide
mutual
theorem zk (fs:List Fd) (hw:∀k,(dX fs k).length<=500):∀(q:Qy) (deep:Nat),jk q deep=0->∀s,fy fs q=some s->0<=s/\s<=sq deep
 |.mk k t ws ks,deep,hm,s,hs=>by
  obtain⟨h1,h2,h3⟩:=qx.1 hm;have hc:=G3 (deep:=deep);have h4:=ET fs hw ks (deep+1) h3;have h5:(tO fs ks).length=ks.length:=by rw[zh,bW]
  have hcs:=Ka h1;have hcp:=ES (deep+1);have h6:=ER hcp h4;rw[fy]at hs
  have hcn:∀n:Nat,n<=500->wV n=some s->0<=s/\s<=sq deep:=λn hn h=>by
   unfold wV at h
   split at h
   ·cases h;omega
   ·cases h
  have WK:(k=2\/k=3)->ks.length<=8:=λhk=>by
   rcases zj h2 with⟨h,_⟩|⟨h,_⟩|⟨_,_,h⟩|⟨h,_⟩
   ·omega
   ·omega
   ·exact h
   ·omega
  have ab0:ks.length<=8->pz (tO fs ks)<=sq deep:=λh=>by
   rw[h5]at h6;have:=Int.mul_le_mul_of_nonneg_right (show(ks.length:Int)<=8 by omega) hcp;omega
  split at hs
  ·exact hcn _ (du (EJ _ _) (hw _)) hs
  ·split at hs
   ·exact hcn _ (du (It _ _) (hw _)) hs
   ·split at hs
    ·rename_i hk
     split at hs
     ·cases hs;exact⟨h6.1,ab0 (WK (.inl hk))⟩
     ·cases hs
    ·split at hs
     ·rename_i hk
      split at hs
      ·cases hs;exact⟨h6.1,ab0 (WK (.inr hk))⟩
      ·cases hs
     ·split at hs
      ·cases hs
      ·cases hs;omega
theorem ET (fs:List Fd) (hw:∀k,(dX fs k).length<=500):∀(ks:List Qy) (deep:Nat),(∀q∈ks,jk q deep=0)->∀o∈tO fs ks,∀s,o=some s->0<=s/\s<=sq deep
 |[],_,_,o,ho,_,_=>by rw[tO]at ho;cases ho
 |q::ks,deep,hm,o,ho,s,hs=>by
  rw[tO]at ho;rcases cY.1 ho with h|h
  ·exact zk fs hw q deep (hm q (bL ..)) s (by rw[<-h];exact hs)
  ·exact ET fs hw ks deep (λx hx=>hm x (cn _ hx)) o h s hs
end
theorem w97:cL [97]=true:=by
 unfold cL;rw[decide_eq_true_iff];refine⟨?_,by decide⟩;have:=Oy;simpa using this
theorem R0:eA [116]=true:=by decide
theorem Bk (s:List UInt8):eA (eP s)=true:=by
 unfold eP
 split
 ·assumption
 ·exact R0
theorem Kc (ws:List (List UInt8)):(jv ws).all cL=true/\(jv ws).length<=3:=by
 unfold jv;refine⟨by simp,du (fi _ _) (by rw[a7];omega)⟩
theorem Bm (k:Int):1<=fu k/\fu k<=5:=by
 unfold fu;have h1:=Int.emod_nonneg (Ct k) (show(5:Int)≠0 by decide);have h2:=Int.emod_lt_of_pos (Ct k) (show(0:Int)<5 by decide);omega
theorem Kd (t:Fd) {deep:Nat} (h:deep<=6):jk (Iu t) deep=0:=by
 unfold Iu;refine qx.2 ⟨h,?_,λq hq=>by cases hq⟩;unfold j5
 have hw:cL (if cL t.2=true then t.2 else[97])=true:=by
  split
  ·assumption
  ·exact w97
 rw[if_neg hV,if_neg hV,if_neg (by simp),if_neg (by rw[Bk];decide),if_pos rfl,if_pos hw]
mutual
theorem Bn:∀(q:Qy) (deep:Nat),deep<=4->jk (fh q deep) deep=0
 |.mk k t ws ks,deep,hd=>by
  have hk:=Bm k;rw[fh]
  split
  ·rename_i h
   obtain⟨h1,h2,h3⟩:=h;have hm:=zm ks (deep+1) hV;have hl:(oO ks (deep+1)).length=ks.length:=by rw[sm,bW]
   have hp:0<ks.length:=eh.2 h3;refine qx.2 ⟨by omega,?_,λq hq=>hm q (List.mem_of_mem_take hq)⟩;unfold j5;rw[if_neg hV,if_pos h1];by_cases h4:fu k=4
   ·rw[if_pos h4,a7,hl,if_neg a08,if_neg hV]
   ·rw[if_neg h4,a7,hl,if_neg a08,if_neg hV]
  ·split
   ·rename_i h
    obtain⟨h1,h2⟩:=h;obtain⟨h3,h4⟩:=Kc ws;refine qx.2 ⟨by omega,?_,λq hq=>by cases hq⟩;unfold j5;rw[if_neg hV,if_neg hV,if_neg (by simp),if_neg (by rw[Bk];decide),if_neg q0,if_neg h2,if_neg (by rw[h3];decide),if_neg hV]
   ·exact Kd t hV
theorem zm:∀(ks:List Qy) (deep:Nat),deep<=4->∀q∈oO ks deep,jk q deep=0
 |[],_,_,q,hq=>by rw[oO]at hq;cases hq
 |x::ks,deep,hd,q,hq=>by
  rw[oO]at hq;rcases cY.1 hq with h|h
  ·rw[h];exact Bn x deep hd
  ·exact zm ks deep hd q h
end
theorem Bo {d:Dc} (h:iC d) (i:Nat) (t:Fd):D6 i (cB d.2) (cZ t)=if 0<(jc (dX d.2 t.1) t.2).length then[((i:Int),jc (dX d.2 t.1) t.2)]else[]:=by
 have hp:=OE h i t;rcases xm h i (cZ t)with h1|⟨u,hu,hk,h1⟩
 ·rw[h1,if_neg (λhn=>(hp.2 hn) h1)]
 ·rw[h1,if_pos (hp.1 (by rw[h1];simp))];have IY:=(iG h.H3).1 hu;obtain⟨f,hf,IT,Lq⟩:=sk.1 IY;have e:u=t:=EN (by obtain⟨p,hp,rfl⟩:=cx.1 IY;exact h.H3 p hp) (EM _ _ Lq) hk;rw[e,OF h.once]
def EU (t:Fd) (e:En):Option Int:=wV (jc (dX e.1.2 t.1) t.2).length
theorem OP (t:Fd):∀(L:List En) (i:Nat),(∀e∈L,iC e.1)->(A5 (cZ t) i L).map (λp=>((p.1:Int),((p.2.length:Nat):Int)))=gg (EU t) i L
 |[],_,_=>rfl
 |e::L,i,hF=>by
  show(D6 i (cB e.1.2) (cZ t)++A5 (cZ t) (i+1) L).map _=_;rw[eu,Bo (hF e (by simp)) i t,OP t L (i+1) (λe' he=>hF e' (by simp[he])),gg,EU,wV];by_cases h:0<(jc (dX e.1.2 t.1) t.2).length
  ·rw[if_pos h,if_pos h];rfl
  ·rw[if_neg h,if_neg h];rfl
theorem OQ {L:List En} (hF:∀e∈L,iC e.1) {t:Fd} {p:Po}:p∈pk L (cZ t)↔∃(d:Nat) (e:En),L[d]? =some e/\p=((d:Int),jc (dX e.1.2 t.1) t.2)/\0<(jc (dX e.1.2 t.1) t.2).length:=by
 have key:∀(L:List En) (i:Nat),(∀e∈L,iC e.1)->(p∈A5 (cZ t) i L↔∃(d:Nat) (e:En),L[d]? =some e/\p=(((i+d:Nat):Int),jc (dX e.1.2 t.1) t.2)/\0<(jc (dX e.1.2 t.1) t.2).length):=by
  intro L
  induction L with
  |nil=>intro i _;simp[A5]
  |cons e L ih=>
   intro i hF;show p∈D6 i (cB e.1.2) (cZ t)++A5 (cZ t) (i+1) L↔_;rw[dw,ih (i+1) (λx hx=>hF x (cn _ hx)),Bo (hF e (bL ..)) i t];constructor
   ·rintro(h|⟨d,x,h1,h2,h3⟩)
    ·split at h
     ·rename_i hc
      exact⟨0,e,rfl,by simpa using h,hc⟩
     ·cases h
    ·exact⟨d+1,x,by simpa using h1,by rw[h2];congr 2;omega,h3⟩
   ·rintro⟨d,x,h1,h2,h3⟩
    cases d with
    |zero=>simp at h1;subst h1;exact .inl (by rw[if_pos h3,h2];simp)
    |succ d=>exact .inr ⟨d,x,by simpa using h1,by rw[h2];congr 2;omega,h3⟩
 have:=key L 0 hF;simpa[pk]using this
theorem wx {d:Dc} (h:iC d) (k:List UInt8):(dX d.2 k).length<=500:=by
 unfold dX
 split
 ·rename_i f hf
  have hm:=List.mem_of_find?_eq_some hf
  have:(words f.2).length<=(cB d.2).length:=by
   obtain⟨i,hi⟩:=bO.1 hm
   have e:cB d.2=cB (d.2.take i)++(gz f++cB (d.2.drop (i+1))):=by
    obtain⟨h1,h2⟩:=al.1 hi
    have:d.2=d.2.take i++(f::d.2.drop (i+1)):=by
     conv=>lhs;rw[<-fR i d.2,eR h1,h2]
    conv=>lhs;rw[this]
    unfold cB;rw[List.flatMap_append,List.flatMap_cons]
   rw[e,bG,bG];have:(gz f).length=(words f.2).length:=by unfold gz;simp
   omega
  have:=h.many;omega
 ·simp
end Go.K
namespace Go.K
open Go.Proofs
set_option maxRecDepth 10000
theorem W9 {M:aH} {a b:List (List UInt8)} {v u:Value} (w0:World) (hM:Lt M w0) (hv:((RT.str).sl).V M w0 a v) (hu:((RT.str).sl).V M w0 b u):
  Spec Tryz.prog 125 #[v,u] w0 (λv' w'=>v'= .bool (decide (a=b))/\Step M w0 M w' aE):=by
 have iF:=hM;have hla:=dQ hv;have hlb:=dQ hu;refine a8 (args:=[_,_]) (fn:=Tryz.f125) Tryz.func125 G (n:=26) Tryz.ntmps125 ?_;have S:Step M w0 M w0 aE:=aV;refine T.aP (Rg.bg G G (aN (T.aP (ab G G (bN aD G hv G (ab G G (bN aD G hu G (eW G G G ?_))))))));refine ad ?_;refine bF G (λc1=>?_) (λc1=>?_)
 ·refine T.aP (Rg.bg G G (aJ ?_));exact aM rfl rfl ⟨congrArg Value.bool (decide_eq_false (λe=>by subst e;exact c1 G)).symm,S⟩
 ·have hlen:a.length=b.length:=by omega
  refine aR (aN (T.aP (Rg.bg G G (aY ?_))));refine dz (σ:=Nat) (λk=>[(0,v),(1,u),(5,.int .i64 (k:Int))]) (λk w=>Step M w0 M w aE/\((RT.str).sl).V M w a v/\((RT.str).sl).V M w b u/\k<=a.length/\a.take k=b.take k) (λk=>a.length-k) 0 a09 ?_ ?_
  ·exact⟨S,hv,hu,bm _,G⟩
  ·clear S hv hu hM;rintro k w ⟨S,hv,hu,hk,heq⟩;have hM:=S.lt iF;refine aN (T.aP (ab G G (ab G G (bN aD G hv G (cy G G G (ad ?_))))));refine bF G (λc4=>?_) (λc4=>?_)
   ·refine aR (aN (aY (aN ?_)));apply um mixed rfl rfl;intro wD6 sA6;have Au:=sA6 M;replace hv:=hv.le Au.le;replace hu:=hu.le Au.le;replace hM:=Au.lt hM;have:=S.size;replace S:=S.ax Au;refine ab G G (Rg.dm (ab G G (Rg.dm ?_)));obtain⟨x,HO⟩:∃x,a[k]? =some x:=⟨_,an hV⟩;obtain⟨y,Jt⟩:∃y,b[k]? =some y:=⟨_,an hV⟩;refine cD aD I9 G G G hv cf hV (λu62 x_ iU OR=>?_);rw[aw]at iU;obtain rfl:=aK (HO.symm.trans iU);refine Rg.dm ?_;refine bP aA G G G G G OR cf (λv63 wW=>?_);obtain rfl:=ep wW;refine Rg.dm (ab G G (Rg.dm (ab G G (Rg.dm ?_))));refine cD aD I9 G G G hu cf hV (λu66 x_ iU Xa=>?_);rw[aw]at iU;obtain rfl:=aK (Jt.symm.trans iU);refine Rg.dm ?_;refine bP aA G G G G G Xa cf (λv67 Xb=>?_);obtain rfl:=ep Xb;refine Rg.dm (Rg.Hz G G G (Rg.dm (gm ?_)));refine bF G (λc6=>?_) (λc6=>?_)
    ·refine T.aP (Rg.bg G G (aJ ?_));exact aM rfl rfl ⟨congrArg Value.bool (decide_eq_false (λe=>by subst e;rw[HO]at Jt;cases Jt;exact c6 G)).symm,S⟩
    ·refine aR (aL (ab G G (bB G G G hV (Rg.bg G G ?_))));refine⟨G,k+1,a09,?_,?_⟩
     ·exact⟨S,hv,hu,by omega,by rw[bX,bX,heq,HO,Jt,cr.1 c6]⟩
     ·omega
   ·refine cQ (T.aP (Rg.bg G G (aJ ?_)));rw[bD hV,bD hV]at heq;exact aM G G ⟨congrArg Value.bool (decide_eq_true heq).symm,S⟩
theorem OS {M:aH} {a b:List (List UInt8)} {v u:Value} (w0:World) (hM:Lt M w0) (hv:((RT.str).sl).V M w0 a v) (hu:((RT.str).sl).V M w0 b u):
  Spec Tryz.prog 216 #[v,u] w0 (λv' w'=>v'= .bool (decide (a=b))/\Step M w0 M w' aE):=by
 have iF:=hM;have hla:=dQ hv;have hlb:=dQ hu;refine a8 (args:=[_,_]) (fn:=Tryz.f216) Tryz.func216 G (n:=26) Tryz.ntmps216 ?_;have S:Step M w0 M w0 aE:=aV;refine T.aP (Rg.bg G G (aN (T.aP (ab G G (bN aD G hv G (ab G G (bN aD G hu G (eW G G G ?_))))))));refine ad ?_;refine bF G (λc1=>?_) (λc1=>?_)
 ·refine T.aP (Rg.bg G G (aJ ?_));exact aM rfl rfl ⟨congrArg Value.bool (decide_eq_false (λe=>by subst e;exact c1 G)).symm,S⟩
 ·have hlen:a.length=b.length:=by omega
  refine aR (aN (T.aP (ab G G (bN aD G hv G (ab G G (ad (aY ?_)))))));refine dz (σ:=Nat) (λk=>[(0,v),(1,u),(12,.int .i64 (a.length:Int)),(13,.int .i64 (k:Int))]) (λk w=>Step M w0 M w aE/\((RT.str).sl).V M w a v/\((RT.str).sl).V M w b u/\k<=a.length/\a.take k=b.take k) (λk=>a.length-k) 0 Uc ?_ ?_
  ·exact⟨S,hv,hu,bm _,G⟩
  ·clear S hv hu hM;rintro k w ⟨S,hv,hu,hk,heq⟩;have hM:=S.lt iF;refine T.aP (cy G G G (ad (aN ?_)));refine bF G (λc4=>?_) (λc4=>?_)
   ·refine aR (aN (aY (T.aP (ab G G (Rg.bg G G (aN ?_))))));apply um mixed rfl rfl;intro wD6 sA6;have Au:=sA6 M;replace hv:=hv.le Au.le;replace hu:=hu.le Au.le;replace hM:=Au.lt hM;have:=S.size;replace S:=S.ax Au;refine ab G G (Rg.dm (ab G G (Rg.dm ?_)));obtain⟨x,HO⟩:∃x,a[k]? =some x:=⟨_,an hV⟩;obtain⟨y,Jt⟩:∃y,b[k]? =some y:=⟨_,an hV⟩;refine cD aD I9 G G G hv cf hV (λu62 x_ iU OR=>?_);rw[aw]at iU;obtain rfl:=aK (HO.symm.trans iU);refine Rg.dm ?_;refine bP aA G G G G G OR cf (λv63 wW=>?_);obtain rfl:=ep wW;refine Rg.dm (ab G G (Rg.dm (ab G G (Rg.dm ?_))));refine cD aD I9 G G G hu cf hV (λu66 x_ iU Xa=>?_);rw[aw]at iU;obtain rfl:=aK (Jt.symm.trans iU);refine Rg.dm ?_;refine bP aA G G G G G Xa cf (λv67 Xb=>?_);obtain rfl:=ep Xb;refine Rg.dm (Rg.Hz G G G (Rg.dm (gm ?_)));refine bF G (λc6=>?_) (λc6=>?_)
    ·refine T.aP (Rg.bg G G (aJ ?_));exact aM rfl rfl ⟨congrArg Value.bool (decide_eq_false (λe=>by subst e;rw[HO]at Jt;cases Jt;exact c6 G)).symm,S⟩
    ·refine aR (aL (bB G G G hV (ab G G (ad ?_))));refine⟨G,k+1,Uc,?_,?_⟩
     ·exact⟨S,hv,hu,by omega,by rw[bX,bX,heq,HO,Jt,cr.1 c6]⟩
     ·omega
   ·refine cQ (T.aP (Rg.bg G G (aJ ?_)));rw[bD hV,bD hV]at heq;exact aM G G ⟨congrArg Value.bool (decide_eq_true heq).symm,S⟩
namespace TKQSame
theorem zn:TI Tryz.prog 26 (.slice none 0 0) 1 24:=by unfold TI;kernel_rfl
theorem gP:TI Tryz.prog 28 (.agg #[(.int .i64 0),(.string ⟨#[]⟩),(.string ⟨#[]⟩),(.slice none 0 0),(.slice none 0 0)]) 5 88:=by unfold TI;kernel_rfl
theorem Xc:Enters Tryz.prog 162:=enters Tryz.func162 rfl q0
theorem ajz:Enters Tryz.prog 216:=enters Tryz.func216 rfl q0
theorem ajA:Enters Tryz.prog 217:=enters Tryz.func217 rfl q0
end TKQSame
open TKQSame
set_option maxRecDepth 10000
theorem Ke {M:aH} {n:Nat} {a b:List Qy} {v u:Value} (w0:World) (hM:Lt M w0) (hv:((RT.qy n).sl (aZ n)).V M w0 a v) (hu:((RT.qy n).sl (aZ n)).V M w0 b u) (ih:∀x∈a,∀y∈b,∀(M:aH) (w:World) (v u:Value),Lt M w->(RT.qy n).V M w x v->(RT.qy n).V M w y u->Spec Tryz.prog 162 #[v,u] w (λv' w'=>v'= .bool (decide (x=y))/\Step M w M w' aE)):
  Spec Tryz.prog 217 #[v,u,.func (.func 162) #[] #[]] w0 (λv' w'=>v'= .bool (decide (a=b))/\Step M w0 M w' aE):=by
 have hla:=dQ hv;have hlb:=dQ hu;refine a8 (args:=[_,_,_]) (fn:=Tryz.f217) Tryz.func217 G (n:=32) Tryz.ntmps217 ?_;have S:Step M w0 M w0 aE:=aV;refine T.aP (Rg.bg G G (aN (T.aP (ab G G (bN (A:=RT.qy n) (hn:=aZ _) ck G hv G (ab G G (bN (A:=RT.qy n) (hn:=aZ _) ck G hu G (eW G G G ?_))))))));refine ad ?_;refine bF G (λc1=>?_) (λc1=>?_)
 ·refine T.aP (Rg.bg G G (aJ ?_));exact aM rfl rfl ⟨congrArg Value.bool (decide_eq_false (λe=>by subst e;exact c1 G)).symm,S.back⟩
 ·have hlen:a.length=b.length:=by omega
  refine aR (aN (T.aP (ab G G (bN (A:=RT.qy n) (hn:=aZ _) ck G hv G (ab G G (ad (aY ?_)))))));refine dz (σ:=Nat) (λk=>[(0,v),(1,u),(2,.func (.func 162) #[] #[]),(15,v),(16,.int .i64 (a.length:Int)),(17,.int .i64 (k:Int))]) (λk w=>∃M1,Lt M1 w/\Step M w0 M1 w aE/\((RT.qy n).sl (aZ n)).V M1 w a v/\((RT.qy n).sl (aZ n)).V M1 w b u/\k<=a.length/\a.take k=b.take k) (λk=>a.length-k) 0 a11 ?_ ?_
  ·exact⟨_,hM,S,hv,hu,bm _,G⟩
  ·clear S hv hu hM;rintro k w ⟨M1,hM,S,hv,hu,hk,heq⟩;refine T.aP (cy G G G (ad (aN ?_)));refine bF G (λc4=>?_) (λc4=>?_)
   ·refine aR (aN (aY (T.aP (ab G G ?_))));obtain⟨x,hx⟩:∃x,(a)[k]? =some x:=⟨_,an hV⟩;refine cD (A:=RT.qy n) (hn:=aZ _) (M:=M1) ck (IQ gP _) G G G hv cf hV (λu51 x_ iU Xd=>?_);rw[aw]at iU;obtain rfl:=aK (hx.symm.trans iU);refine cv (A:=RT.qy (n)) au G (IQ gP _) (aZ _) (eB _) G G Xd cf (λv52 wY=>?_);obtain⟨xw,xk,rfl,xr,xl,hxw,hxk⟩:=mO (lJ wY);refine ec M1 gP G (λXe ZJ asv asw qL wM=>?_);obtain⟨EV,OT⟩:∃M',M'=ins M1 Xe:=⟨_,rfl⟩;rw[<-OT]at wM;have mS:EV Xe:=by rw[OT];exact .inl G
    change ZJ.heap[Xe]? =some (.cells #[.int .i64 0,.string ⟨#[]⟩,.string ⟨#[]⟩,.slice none 0 0,.slice none 0 0] _ _)at qL;replace hv:=hv.le wM.le;replace hu:=hu.le wM.le;replace wY:=wY.le wM.le;replace hM:=wM.lt hM;have:=S.size;replace S:=S.ax wM;refine aF G G ?_;refine cM (M:=EV) (vs:=[.int .i64 x.kind,.string ⟨x.term.1.toArray⟩,.string ⟨x.term.2.toArray⟩,xw,xk]) gP G G (BW hxw hxk) G G qL mS (λwq5 gq5 Xf=>?_);have:=ae qL;replace mS:=(Xf.mem _ this).2 mS;replace hv:=hv.le Xf.le;replace hu:=hu.le Xf.le;replace wY:=wY.le Xf.le;replace hM:=Xf.lt hM;have:=S.size;replace S:=S.trans Xf (λk hk h=>by have h:_=_:=h;subst h;first|(exfalso;omega)|(show _<=_;omega)|exact⟨by first|omega|assumption,(S.mem _ hk).1 ((Xf.mem _ (ae qL)).1 mS)⟩|exact .inl rfl|exact .inr rfl|exact .inr (.inl rfl)|exact .inr (.inr rfl)|exact .inr (.inr (.inl rfl))|exact rfl);have TV:=gq5;clear qL;have qL:=TV;clear TV;refine ad (T.aP (ab G G (ab G G ?_)));obtain⟨y,hy⟩:∃x,(b)[k]? =some x:=⟨_,an hV⟩;refine cD (A:=RT.qy n) (hn:=aZ _) (M:=EV) ck (IQ gP _) G G G hu cf hV (λu62 x_ iU OR=>?_);rw[aw]at iU;obtain rfl:=aK (hy.symm.trans iU);refine cv (A:=RT.qy (n)) au G (IQ gP _) (aZ _) (eB _) G G OR cf (λv63 wW=>?_);obtain⟨yw,yk,rfl,yr,yl,hyw,hyk⟩:=mO (lJ wW);refine ec EV gP G (λXg ajC asA asB Av Cw=>?_);obtain⟨TW,OU⟩:∃M',M'=ins EV Xg:=⟨_,rfl⟩;rw[<-OU]at Cw;have vz:TW Xg:=by rw[OU];exact .inl G
    change ajC.heap[Xg]? =some (.cells #[.int .i64 0,.string ⟨#[]⟩,.string ⟨#[]⟩,.slice none 0 0,.slice none 0 0] _ _)at Av;have:=ae qL;replace mS:=(Cw.mem _ this).2 mS;replace qL:=Cw.aB qL;replace hv:=hv.le Cw.le;replace hu:=hu.le Cw.le;replace wY:=wY.le Cw.le;replace wW:=wW.le Cw.le;replace hM:=Cw.lt hM;have:=S.size;replace S:=S.ax Cw;refine cM (M:=TW) (vs:=[.int .i64 y.kind,.string ⟨y.term.1.toArray⟩,.string ⟨y.term.2.toArray⟩,yw,yk]) gP G G (BW hyw hyk) G G Av vz (λwq6 gq6 P4=>?_);have:=ae qL;replace mS:=(P4.mem _ this).2 mS;replace qL:=P4.bR qL a03;have:=ae Av;replace vz:=(P4.mem _ this).2 vz;replace hv:=hv.le P4.le;replace hu:=hu.le P4.le;replace wY:=wY.le P4.le;replace wW:=wW.le P4.le;replace hM:=P4.lt hM;have:=S.size;replace S:=S.trans P4 (λk hk h=>by have h:_=_:=h;subst h;first|(exfalso;omega)|(show _<=_;omega)|exact⟨by first|omega|assumption,(S.mem _ hk).1 ((P4.mem _ (ae Av)).1 vz)⟩|exact .inl rfl|exact .inr rfl|exact .inr (.inl rfl)|exact .inr (.inr rfl)|exact .inr (.inr (.inl rfl))|exact rfl);have TX:=gq6;clear Av;have Av:=TX;clear TX;refine ad (T.aP (ab G G (eC (vs:=[.int .i64 x.kind,.string ⟨x.term.1.toArray⟩,.string ⟨x.term.2.toArray⟩,xw,xk]) au G gP G G G qL (eC (vs:=[.int .i64 y.kind,.string ⟨y.term.1.toArray⟩,.string ⟨y.term.2.toArray⟩,yw,yk]) au G gP G G G Av ?_))));refine uk (first:=[]) (captured:=[]) (xs:=[.tmp 27,.tmp 28]) G G G Xc (ih x (ao hx) y (ao hy) _ _ _ _ hM wY wW) (λr7 w7 hc=>?_);obtain⟨rfl,s7⟩:=hc;have:=ae qL;replace mS:=(s7.mem _ this).2 mS;replace qL:=s7.aB qL;have:=ae Av;replace vz:=(s7.mem _ this).2 vz;replace Av:=s7.aB Av;replace hv:=hv.le s7.le
    replace hu:=hu.le s7.le;replace wY:=wY.le s7.le;replace wW:=wW.le s7.le;replace hM:=s7.lt hM;have:=S.size;replace S:=S.ax s7;refine iv G G (bh (v':= .bool (decide (¬x=y))) (by simp) (ad ?_));refine bF G (λc7=>?_) (λc7=>?_)
    ·refine T.aP (Rg.bg G G (aJ ?_));exact aM rfl rfl ⟨congrArg Value.bool (decide_eq_false (λe=>by subst e;rw[hx]at hy;cases hy;exact c7 G)).symm,S.back⟩
    ·refine aR (aL (bB G G G hV (ab G G (ad ?_))));refine⟨G,k+1,a11,?_,?_⟩
     ·exact⟨_,hM,S,hv,hu,by omega,by rw[bX,bX,heq,hx,hy,cr.1 c7]⟩
     ·omega
   ·refine cQ (T.aP (Rg.bg G G (aJ ?_)));rw[bD hV,bD hV]at heq;exact aM G G ⟨congrArg Value.bool (decide_eq_true heq).symm,S.back⟩
theorem zo {M:aH} {n:Nat} {a b:Qy} {v u:Value} (w0:World) (hM:Lt M w0) (hv:(RT.qy (n+1)).V M w0 a v) (hu:(RT.qy (n+1)).V M w0 b u) (ih:∀x∈a.kids,∀y∈b.kids,∀(M:aH) (w:World) (v u:Value),Lt M w->(RT.qy n).V M w x v->(RT.qy n).V M w y u->Spec Tryz.prog 162 #[v,u] w (λv' w'=>v'= .bool (decide (x=y))/\Step M w M w' aE)):
  Spec Tryz.prog 162 #[v,u] w0 (λv' w'=>v'= .bool (decide (a=b))/\Step M w0 M w' aE):=by
 refine a8 (args:=[_,_]) (fn:=Tryz.f162) Tryz.func162 G (n:=31) Tryz.ntmps162 ?_;have S:Step M w0 M w0 aE:=aV;refine T.aP ?_;refine fD (A:=RT.qy (n+1)) (a:=a) G G hM hv (eB _) (λu2 Kf eS j8 _=>?_);replace hv:=hv.le j8.le;replace hu:=hu.le j8.le;replace hM:=j8.lt hM;have:=S.size;replace S:=S.ax j8;refine fD (A:=RT.qy (n+1)) (a:=b) G G hM hu (eB _) (λu3 wb1 jJ sb1 _=>?_);replace hu:=hu.le sb1.le;replace eS:=eS.le (aZ _) sb1.le;replace hM:=sb1.lt hM;have:=S.size;replace S:=S.ax sb1;refine Rg.bg G G (T.aP ?_);refine ar (A:=RT.qy (n+1)) (B:=RT.int .i64) au G G I3 q0 (QK n) G G (aZ _) eS cf (λJy nF=>?_);refine b4 ak G G nF cf (λxx=>?_);refine bh (v':= .int .i64 a.kind) G ?_;refine ar (A:=RT.qy (n+1)) (B:=RT.int .i64) au G G I3 q0 (QK n) G G (aZ _) jJ cf (λu12 G4=>?_);refine b4 ak G G G4 cf (λaem=>?_);refine bh (v':= .int .i64 b.kind) G (ic G G G (ab G G ?_));refine aO (g:=10) G (λkP=>?_) (λkP=>?_)
 ·refine ah G G ?_;refine ar (A:=RT.qy (n+1)) (B:=RT.fd) au G G mi q0 (Jh n) G G (aZ _) eS cf (λu16 Xh=>?_);refine ah G G ?_;refine cv (A:=RT.fd) bK G mi q0 G G G Xh cf (λv17 Kg=>?_);obtain rfl:=kh Kg;refine ah G G ?_;refine ar (A:=RT.qy (n+1)) (B:=RT.fd) au G G mi q0 (Jh n) G G (aZ _) jJ cf (λu18 V6=>?_);refine ah G G ?_;refine cv (A:=RT.fd) bK G mi q0 G G G V6 cf (λv19 Rn=>?_);obtain rfl:=kh Rn;refine ah G G (Rg.ajv (p:=a.term) (q:=b.term) bK (by kernel_rfl) (by kernel_rfl) q0 q0 G G aA aA G G G (aU G G G (ab G G ?_)));refine aO (g:=17) G (λtQ=>?_) (λtQ=>?_)
  ·refine ah G G ?_;refine ar (A:=RT.qy (n+1)) (B:=(RT.str.sl)) au G G vS q0 (PZ n) G G (aZ _) eS cf (λasD ab2=>?_);refine ah G G ?_;refine bP aD G G G G G ab2 cf (λasE ab3=>?_);refine ah G G ?_;refine ar (A:=RT.qy (n+1)) (B:=(RT.str.sl)) au G G vS q0 (PZ n) G G (aZ _) jJ cf (λasF ab4=>?_);refine ah G G ?_;refine bP aD G G G G G ab4 cf (λasG ab5=>?_);refine ah G G ?_;refine aQ G G ajz (OS _ hM ab3 ab5) (λasH asI hc=>?_);obtain⟨rfl,R1⟩:=hc;replace eS:=eS.le (aZ _) R1.le;replace jJ:=jJ.le (aZ _) R1.le;replace hM:=R1.lt hM;have:=S.size;replace S:=S.ax R1;refine aU G G G (ab G G ?_);refine aO (g:=24) G (λtR=>?_) (λtR=>?_)
   ·refine ah G G ?_;refine ar (A:=RT.qy (n+1)) (B:=((RT.qy n).sl (aZ n))) au G G zn Nat.one_pos (LN n) G G (aZ _) eS cf (λajE OV=>?_);refine ah G G ?_;refine bP ck G G G G G OV cf (λasJ ab6=>?_);refine ah G G ?_;refine ar (A:=RT.qy (n+1)) (B:=((RT.qy n).sl (aZ n))) au G G zn Nat.one_pos (LN n) G G (aZ _) jJ cf (λasK ab7=>?_);refine ah G G ?_;refine bP ck G G G G G ab7 cf (λasL ab8=>?_);refine ah G G ?_;refine aQ G G ajA (Ke _ hM ab6 ab8 ih) (λasM asN hc=>?_);obtain⟨rfl,R2⟩:=hc;replace eS:=eS.le (aZ _) R2.le;replace jJ:=jJ.le (aZ _) R2.le;replace hM:=R2.lt hM;have:=S.size;replace S:=S.ax R2;refine aU G G G (Rg.bg G G (aJ ?_))
    first
    |exact a48
    |exact a74
    |exact a83
    |exact a84
   ·refine aj G G G G (aj G G G G (aj G G G G (aj G G G G (aj G G G G (az G G G (Rg.bg G G (aJ ?_)))))))
    first
    |exact a48
    |exact a74
    |exact a83
    |exact a84
  ·refine aj G G G G (aj G G G G (aj G G G G (aj G G G G (aj G G G G (az G G G (ab G G (aj G G G G (aj G G G G (aj G G G G (aj G G G G (aj G G G G ?_)))))))))));refine az G G G (Rg.bg G G (aJ ?_))
   first
   |exact a48
   |exact a74
   |exact a83
   |exact a84
 ·refine aj G G G G (aj G G G G (aj G G G G (aj G G G G (aj G G G G (az G G G (ab G G (aj G G G G (aj G G G G (aj G G G G (aj G G G G (aj G G G G ?_)))))))))));refine az G G G (ab G G (aj G G G G (aj G G G G (aj G G G G (aj G G G G (aj G G G G (az G G G (Rg.bg G G (aJ ?_)))))))))
  first
  |exact a48
  |exact a74
  |exact a83
  |exact a84
theorem zp:∀(n:Nat) {M:aH} {a b:Qy} {v u:Value} (w0:World) (hM:Lt M w0) (hv:(RT.qy n).V M w0 a v) (hu:(RT.qy n).V M w0 b u),Spec Tryz.prog 162 #[v,u] w0 (λv' w'=>v'= .bool (decide (a=b))/\Step M w0 M w' aE)
 |0,M,a,b,v,u,w0,hM,hv,hu=>zo (n:=0) w0 hM (lJ hv) (lJ hu) λx hx=>by
  obtain⟨vs,⟨_,_,_,_,_,_,_,_,_,_,_,_,hk,_⟩,_⟩:=hv;have hk:a.kids=[]:=hk;rw[hk]at hx;cases hx
 |n+1,M,a,b,v,u,w0,hM,hv,hu=>zo w0 hM hv hu λx _ y _ M w v u hM hv hu=>zp n w hM hv hu
end Go.K
namespace Go.K
open Go.Proofs
namespace TKQKind
theorem zn:TI Tryz.prog 26 (.slice none 0 0) 1 24:=by unfold TI;kernel_rfl
theorem gP:TI Tryz.prog 28 (.agg #[(.int .i64 0),(.string ⟨#[]⟩),(.string ⟨#[]⟩),(.slice none 0 0),(.slice none 0 0)]) 5 88:=by unfold TI;kernel_rfl
theorem Cx:TI Tryz.prog 267 (.agg #[(.string ⟨#[]⟩),.nilFunc,.nilFunc,.nilFunc]) 4 40:=by unfold TI;kernel_rfl
theorem R3:placesOf Tryz.prog 28=[(0,1),(1,2),(3,1),(4,1)].map some:=by kernel_rfl
theorem OW:placesOf Tryz.prog 267=[(0,1),(1,1),(2,1),(3,1)].map some:=by kernel_rfl
theorem Xi:Enters Tryz.prog 211:=enters Tryz.func211 rfl q0
end TKQKind
open TKQKind
set_option maxRecDepth 10000
def j9:Qy->Qy
 |.mk k t ws ks=>if k=1 then .mk k t [] []else if k=5 then .mk k (t.1,[]) ws []else .mk k ([],[]) [] ks
def KV (k:Int) (v:Value) (w:World):Prop:=
 (k=1/\v= .agg #[.string ⟨#[]⟩,.func (.func 203) #[] #[],.func (.func 204) #[] #[],.func (.func 205) #[] #[]])\/
 (k=5/\v= .agg #[.string ⟨#[]⟩,.func (.func 207) #[] #[],.func (.func 208) #[] #[],.func (.func 209) #[] #[]])\/
 ((k=2\/k=3\/k=4)/\∃b wd fv,v= .agg #[.string wd,.func (.func 202) #[] #[],.func (.func 269) #[] #[.pointer (some ⟨b,0,none⟩)],.func (.func fv) #[] #[]]/\w.heap[b]? =some (.cells #[.int .i64 (if k=4 then 1 else 8)] 3 (0,0)))\/
 ((k<1\/5<k)/\v= .agg #[.string ⟨#[]⟩,.nilFunc,.nilFunc,.nilFunc])
theorem KV.step {k:Int} {v:Value} {M M' N:aH} {w w':World} (h:KV k v w) (s:Step M w M' w' N) (hN:∀b,N b->∀cs,w.heap[b]? ≠some (.cells cs 3 (0,0))):KV k v w':=by
 rcases h with h|h|⟨h1,b,wd,fv,h2,h3⟩|h
 ·exact .inl h
 ·exact .inr (.inl h)
 ·exact .inr (.inr (.inl ⟨h1,b,wd,fv,h2,s.bR h3 λhn=>hN b hn _ h3⟩))
 ·exact .inr (.inr (.inr h))
theorem KV.cells {k:Int} {v:Value} {w:World} (h:KV k v w):∃a b c d,v= .agg #[a,b,c,d]/\a.oneCell'=true/\b.oneCell'=true/\c.oneCell'=true/\d.oneCell'=true:=by
 rcases h with⟨_,h⟩|⟨_,h⟩|⟨_,b,wd,fv,h,_⟩|⟨_,h⟩
 all_goals exact⟨_,_,_,_,h,rfl,rfl,rfl,rfl⟩
theorem vB {M:aH} {k:Int} (w0:World) (hM:Lt M w0):
  Spec Tryz.prog 211 #[.int .i64 k] w0 (λv w=>∃b,v= .func (.func 269) #[] #[.pointer (some ⟨b,0,none⟩)]/\w0.heap.size<=b/\w.heap[b]? =some (.cells #[.int .i64 k] 3 (0,0))/\Step M w0 M w aE):=by
 refine a8 (args:=[_]) (fn:=Tryz.f211) Tryz.func211 G (n:=4) Tryz.ntmps211 (T.aP ?_);refine o2 M G G (λb1 w1 p1 q1 g1 s1=>?_);change w1.heap[b1]? =some (.cells #[.int .i64 k] _ _)at g1;refine Rg.bg G G (T.aP (jd (xs:=[]) (ys:=[.tmp 1]) G G G (Rg.bg G G (aJ ?_))));exact aM G G ⟨b1,G,p1,g1,s1.back⟩
set_option maxHeartbeats 2000000 in
theorem G5 {M:aH} (w0:World) (hM:Lt M w0):
  Spec Tryz.prog 161 #[] w0 (λv w=>∃mb es clock,v= .map (some mb)/\w.heap[mb]? =some (.map (es:List MapEntry).toArray clock)/\(∀(k:Int),∃o,Instr.findNow (.int .i64) (.int .i64 k) es 0=some o/\o.isSome=decide (1<=k/\k<=5)/\KV k ((o.map Prod.snd).getD (.agg #[.string ⟨#[]⟩,.nilFunc,.nilFunc,.nilFunc])) w)/\Step M w0 M w aE):=by
 refine a8 (args:=[]) (fn:=Tryz.f161) Tryz.func161 G (n:=15) Tryz.ntmps161 (T.aP (Rg.bg G G (T.aP (Rg.bg G G (T.aP ?_)))));refine Rg.x9 M ry G (λmb wk hmb _ hW S=>?_);have gk:=hW.at_;obtain⟨Mk,hMk⟩:∃Mk,Mk=ins M mb:=⟨_,rfl⟩;have mk:Mk mb:=by rw[hMk];exact .inl G
 rw[<-hMk]at S;replace hM:=S.lt hM;clear hW;refine dg (places:=[(0,1),(1,1),(2,1),(3,1)]) rz Cx OW rfl ⟨_,_,rfl,rfl,_,_,rfl,rfl,_,_,rfl,rfl,_,_,rfl,rfl,rfl⟩ (out:=[_,_,_,_]) ⟨0,[_],rfl,rfl,by simp[Value.cells],1,[_],rfl,rfl,by simp[Value.cells],2,[_],rfl,rfl,by simp[Value.cells],3,[_],rfl,rfl,by simp[Value.cells],rfl⟩ ?_;refine Rg.te (es:=[]) (M:=Mk) ry ak G G G gk G mk (λw1 g1 s1=>?_);replace S:=S.ch s1 (λq hq=>by have hq:q=mb:=hq;omega);replace hM:=s1.lt hM;replace mk:=(s1.mem _ (ae gk)).2 mk;refine dg (places:=[(0,1),(1,1),(2,1),(3,1)]) rz Cx OW rfl ⟨_,_,rfl,rfl,_,_,rfl,rfl,_,_,rfl,rfl,_,_,rfl,rfl,rfl⟩ (out:=[_,_,_,_]) ⟨0,[_],rfl,rfl,by simp[Value.cells],1,[_],rfl,rfl,by simp[Value.cells],2,[_],rfl,rfl,by simp[Value.cells],3,[_],rfl,rfl,by simp[Value.cells],rfl⟩ ?_;refine Rg.te (es:=[_]) (M:=Mk) ry ak G G G g1 G mk (λw5 g5 s5=>?_);replace S:=S.ch s5 (λq hq=>by have hq:q=mb:=hq;omega);replace hM:=s5.lt hM;replace mk:=(s5.mem _ (ae g1)).2 mk;refine ab G G ?_;refine aQ G G Xi (vB (M:=Mk) (k:=8) _ hM) (λrm2 wm2 hc=>?_);obtain⟨bm2,rfl,pm2,OX,sm2⟩:=hc;have nb2:bm2≠mb:=by have:=ae g5;omega
 replace S:=S.ax sm2;replace hM:=sm2.lt hM;replace mk:=(sm2.mem _ (ae g5)).2 mk;replace g5:=sm2.aB g5;refine dg (places:=[(0,1),(1,1),(2,1),(3,1)]) rz Cx OW rfl ⟨_,_,rfl,rfl,_,_,rfl,rfl,_,_,rfl,rfl,_,_,rfl,rfl,rfl⟩ (out:=[_,_,_,_]) ⟨0,[_],rfl,rfl,by simp[Value.cells],1,[_],rfl,rfl,by simp[Value.cells],2,[_],rfl,rfl,by simp[Value.cells],3,[_],rfl,rfl,by simp[Value.cells],rfl⟩ ?_;refine Rg.te (es:=[_,_]) (M:=Mk) ry ak G G G g5 G mk (λw2 g2 s2=>?_);replace S:=S.ch s2 (λq hq=>by have hq:q=mb:=hq;omega);replace hM:=s2.lt hM;replace mk:=(s2.mem _ (ae g5)).2 mk;replace OX:=s2.bR OX nb2;refine ab G G ?_;refine aQ G G Xi (vB (M:=Mk) (k:=8) _ hM) (λrm3 wm3 hc=>?_);obtain⟨bm3,rfl,pm3,Xj,sm3⟩:=hc;have nb3:bm3≠mb:=by have:=ae g2;omega
 replace S:=S.ax sm3;replace hM:=sm3.lt hM;replace mk:=(sm3.mem _ (ae g2)).2 mk;replace g2:=sm3.aB g2;replace OX:=sm3.aB OX;refine dg (places:=[(0,1),(1,1),(2,1),(3,1)]) rz Cx OW rfl ⟨_,_,rfl,rfl,_,_,rfl,rfl,_,_,rfl,rfl,_,_,rfl,rfl,rfl⟩ (out:=[_,_,_,_]) ⟨0,[_],rfl,rfl,by simp[Value.cells],1,[_],rfl,rfl,by simp[Value.cells],2,[_],rfl,rfl,by simp[Value.cells],3,[_],rfl,rfl,by simp[Value.cells],rfl⟩ ?_;refine Rg.te (es:=[_,_,_]) (M:=Mk) ry ak G G G g2 G mk (λw3 g3 s3=>?_);replace S:=S.ch s3 (λq hq=>by have hq:q=mb:=hq;omega);replace hM:=s3.lt hM;replace mk:=(s3.mem _ (ae g2)).2 mk;replace OX:=s3.bR OX nb2;replace Xj:=s3.bR Xj nb3;refine ab G G ?_;refine aQ G G Xi (vB (M:=Mk) (k:=1) _ hM) (λrm4 wm4 hc=>?_);obtain⟨bm4,rfl,pm4,gm4,YA⟩:=hc;have nb4:bm4≠mb:=by have:=ae g3;omega
 replace S:=S.ax YA;replace hM:=YA.lt hM;replace mk:=(YA.mem _ (ae g3)).2 mk;replace g3:=YA.aB g3;replace OX:=YA.aB OX;replace Xj:=YA.aB Xj;refine dg (places:=[(0,1),(1,1),(2,1),(3,1)]) rz Cx OW rfl ⟨_,_,rfl,rfl,_,_,rfl,rfl,_,_,rfl,rfl,_,_,rfl,rfl,rfl⟩ (out:=[_,_,_,_]) ⟨0,[_],rfl,rfl,by simp[Value.cells],1,[_],rfl,rfl,by simp[Value.cells],2,[_],rfl,rfl,by simp[Value.cells],3,[_],rfl,rfl,by simp[Value.cells],rfl⟩ ?_;refine Rg.te (es:=[_,_,_,_]) (M:=Mk) ry ak G G G g3 G mk (λw4 g4 s4=>?_);replace S:=S.ch s4 (λq hq=>by have hq:q=mb:=hq;omega);replace hM:=s4.lt hM;replace mk:=(s4.mem _ (ae g3)).2 mk;replace OX:=s4.bR OX nb2;replace Xj:=s4.bR Xj nb3;replace gm4:=s4.bR gm4 nb4;refine ab G G (Rg.bg G G (aJ ?_));refine aM G G ⟨mb,_,_,G,g4,λk=>?_,S.back⟩;have fq:∀a b:Int,¬a=b->(a==b)=false:=λa b h=>by simpa using h
 by_cases h1:k=1
 ·subst h1;exact⟨_,G,G,.inl ⟨G,G⟩⟩
 by_cases h5:k=5
 ·subst h5;exact⟨_,G,G,.inr (.inl ⟨G,G⟩)⟩
 by_cases h2:k=2
 ·subst h2;exact⟨_,G,G,.inr (.inr (.inl ⟨.inl G,bm2,_,_,G,OX⟩))⟩
 by_cases h3:k=3
 ·subst h3;exact⟨_,G,G,.inr (.inr (.inl ⟨.inr (.inl G),bm3,_,_,G,Xj⟩))⟩
 by_cases h4:k=4
 ·subst h4;exact⟨_,G,G,.inr (.inr (.inl ⟨.inr (.inr G),bm4,_,_,G,gm4⟩))⟩
 refine⟨none,?_,?_,.inr (.inr (.inr ⟨by omega,rfl⟩))⟩
 ·simp[Instr.findNow,Instr.sameNow,fq _ _ h1,fq _ _ h2,fq _ _ h3,fq _ _ h4,fq _ _ h5]
 ·exact(decide_eq_false hV).symm
theorem Kh {M:aH} {n:Nat} {q:Qy} {v:Value} (w0:World) (hM:Lt M w0) (hv:(RT.qy (n+1)).V M w0 q v) (hk:q.kind=2\/q.kind=3\/q.kind=4):
  Spec Tryz.prog 202 #[v] w0 (λv w=>(RT.qy (n+1)).V M w (j9 q) v/\Step M w0 M w aE):=by
 have iF:=hM;obtain⟨_,_,_,Xk,sN,_,_⟩:=mO hv
 have hqb:j9 q= .mk q.kind ([],[]) [] q.kids:=by
  obtain⟨k,t,ws,ks⟩:=q
  first
  |exact if_pos hk
  |exact(if_neg (by show¬k=1;have hk:k=5:=hk;omega)).trans (if_pos hk)
  |exact(if_neg ai2).trans (if_neg ai3)
 refine a8 (args:=[_]) (fn:=Tryz.f202) Tryz.func202 G (n:=8) Tryz.ntmps202 ?_;have S:Step M w0 M w0 aE:=aV;refine T.aP ?_;refine fD (A:=RT.qy (n+1)) (a:=q) G G hM hv (eB _) (λu1 Kf k8 j8 _=>?_);replace hv:=hv.le j8.le;replace hM:=j8.lt hM;have:=S.size;replace S:=S.ax j8;refine ec M gP G (λfW rX F8 F9 cw ib=>?_);obtain⟨eU,gr⟩:∃M',M'=ins M fW:=⟨_,rfl⟩;rw[<-gr]at ib;have bV:eU fW:=by rw[gr];exact .inl G
 change rX.heap[fW]? =some (.cells #[.int .i64 0,.string ⟨#[]⟩,.string ⟨#[]⟩,.slice none 0 0,.slice none 0 0] _ _)at cw;replace k8:=k8.le (aZ _) ib.le;replace hM:=ib.lt hM;have:=S.size;replace S:=S.ax ib;refine ad (T.aP ?_);refine ar (A:=RT.qy (n+1)) (B:=RT.int .i64) au G G I3 q0 (QK n) G G (aZ _) k8 cf (λJy nF=>?_);refine b4 ak G G nF cf (λxx=>?_);refine bh (v':= .int .i64 q.kind) G ?_;refine ar (A:=RT.qy (n+1)) (B:=((RT.qy n).sl (aZ n))) au G G zn Nat.one_pos (LN n) G G (aZ _) k8 cf (λu12 G4=>?_);refine bP ck G G G G G G4 cf (λWk EW=>?_);refine dg (places:=[(0,1),(1,2),(3,1),(4,1)]) au gP R3 rfl ⟨_,_,rfl,rfl,_,_,rfl,rfl,rfl⟩ (out:=[_,.string ⟨#[]⟩,.string ⟨#[]⟩,.slice none 0 0,_]) ⟨0,[_],rfl,rfl,by simp[Value.cells],4,[_],rfl,iO EW,by simp[Value.cells],rfl⟩ ?_;refine cM (M:=eU) (vs:=[.int .i64 q.kind,.string ⟨#[]⟩,.string ⟨#[]⟩,.slice none 0 0,Wk]) gP G G a96 rfl rfl cw bV (λw5 g5 s5=>?_);have:=ae cw;replace bV:=(s5.mem _ this).2 bV;replace k8:=k8.le (aZ _) s5.le;replace EW:=EW.le s5.le;replace hM:=s5.lt hM;have:=S.size;replace S:=S.trans s5 (λk hk h=>by have h:_=_:=h;subst h;first|(exfalso;omega)|(show _<=_;omega)|exact⟨by first|omega|assumption,(S.mem _ hk).1 ((s5.mem _ (ae cw)).1 bV)⟩|exact .inl rfl|exact .inr rfl|exact .inr (.inl rfl)|exact .inr (.inr rfl)|exact .inr (.inr (.inl rfl))|exact rfl);have fP:=g5;clear cw;have cw:=fP;clear fP;refine ad (aJ ?_);rw[hqb];exact jX G G au G gP G g5 ⟨Dn Xk ⟨by decide,by decide⟩ ij (EW.le (nT iF S)),S.back⟩
theorem Ki {M:aH} {n:Nat} {q:Qy} {v:Value} (w0:World) (hM:Lt M w0) (hv:(RT.qy (n+1)).V M w0 q v) (hk:q.kind=1):
  Spec Tryz.prog 203 #[v] w0 (λv w=>(RT.qy (n+1)).V M w (j9 q) v/\Step M w0 M w aE):=by
 have iF:=hM;obtain⟨_,_,_,Xk,sN,_,_⟩:=mO hv
 have hqb:j9 q= .mk q.kind q.term [] []:=by
  obtain⟨k,t,ws,ks⟩:=q
  first
  |exact if_pos hk
  |exact(if_neg (by show¬k=1;have hk:k=5:=hk;omega)).trans (if_pos hk)
  |exact(if_neg ai2).trans (if_neg ai3)
 refine a8 (args:=[_]) (fn:=Tryz.f203) Tryz.func203 G (n:=8) Tryz.ntmps203 ?_;have S:Step M w0 M w0 aE:=aV;refine T.aP ?_;refine fD (A:=RT.qy (n+1)) (a:=q) G G hM hv (eB _) (λu1 Kf k8 j8 _=>?_);replace hv:=hv.le j8.le;replace hM:=j8.lt hM;have:=S.size;replace S:=S.ax j8;refine ec M gP G (λfW rX F8 F9 cw ib=>?_);obtain⟨eU,gr⟩:∃M',M'=ins M fW:=⟨_,rfl⟩;rw[<-gr]at ib;have bV:eU fW:=by rw[gr];exact .inl G
 change rX.heap[fW]? =some (.cells #[.int .i64 0,.string ⟨#[]⟩,.string ⟨#[]⟩,.slice none 0 0,.slice none 0 0] _ _)at cw;replace k8:=k8.le (aZ _) ib.le;replace hM:=ib.lt hM;have:=S.size;replace S:=S.ax ib;refine ad (T.aP ?_);refine ar (A:=RT.qy (n+1)) (B:=RT.int .i64) au G G I3 q0 (QK n) G G (aZ _) k8 cf (λJy nF=>?_);refine b4 ak G G nF cf (λxx=>?_);refine bh (v':= .int .i64 q.kind) G ?_;refine ar (A:=RT.qy (n+1)) (B:=RT.fd) au G G mi q0 (Jh n) G G (aZ _) k8 cf (λu12 G4=>?_);refine cv (A:=RT.fd) bK G mi q0 G G G G4 cf (λWk EW=>?_);obtain rfl:=kh EW;refine dg (places:=[(0,1),(1,2),(3,1),(4,1)]) au gP R3 rfl ⟨_,_,rfl,rfl,_,_,rfl,rfl,rfl⟩ (out:=[_,_,_,.slice none 0 0,.slice none 0 0]) ⟨0,[_],rfl,rfl,by simp[Value.cells],1,[_,_],rfl,rfl,by simp[Value.cells],rfl⟩ ?_;refine cM (M:=eU) (vs:=[.int .i64 q.kind,.string ⟨q.term.1.toArray⟩,.string ⟨q.term.2.toArray⟩,.slice none 0 0,.slice none 0 0]) gP G G a96 rfl rfl cw bV (λw5 g5 s5=>?_);have:=ae cw;replace bV:=(s5.mem _ this).2 bV;replace k8:=k8.le (aZ _) s5.le;replace hM:=s5.lt hM;have:=S.size;replace S:=S.trans s5 (λk hk h=>by have h:_=_:=h;subst h;first|(exfalso;omega)|(show _<=_;omega)|exact⟨by first|omega|assumption,(S.mem _ hk).1 ((s5.mem _ (ae cw)).1 bV)⟩|exact .inl rfl|exact .inr rfl|exact .inr (.inl rfl)|exact .inr (.inr rfl)|exact .inr (.inr (.inl rfl))|exact rfl);have fP:=g5;clear cw;have cw:=fP;clear fP;refine ad (aJ ?_);rw[hqb];exact jX G G au G gP G g5 ⟨Dn Xk sN ij ij,S.back⟩
theorem EX {M:aH} {n:Nat} {q:Qy} {v:Value} (w0:World) (hM:Lt M w0) (hv:(RT.qy (n+1)).V M w0 q v) (hk:q.kind=5):
  Spec Tryz.prog 207 #[v] w0 (λv w=>(RT.qy (n+1)).V M w (j9 q) v/\Step M w0 M w aE):=by
 have iF:=hM;obtain⟨_,_,_,Xk,sN,_,_⟩:=mO hv
 have hqb:j9 q= .mk q.kind (q.term.1,[]) q.words []:=by
  obtain⟨k,t,ws,ks⟩:=q
  first
  |exact if_pos hk
  |exact(if_neg (by show¬k=1;have hk:k=5:=hk;omega)).trans (if_pos hk)
  |exact(if_neg ai2).trans (if_neg ai3)
 refine a8 (args:=[_]) (fn:=Tryz.f207) Tryz.func207 G (n:=12) Tryz.ntmps207 ?_;have S:Step M w0 M w0 aE:=aV;refine T.aP ?_;refine fD (A:=RT.qy (n+1)) (a:=q) G G hM hv (eB _) (λu1 Kf k8 j8 _=>?_);replace hv:=hv.le j8.le;replace hM:=j8.lt hM;have:=S.size;replace S:=S.ax j8;refine ec M gP G (λfW rX F8 F9 cw ib=>?_);obtain⟨eU,gr⟩:∃M',M'=ins M fW:=⟨_,rfl⟩;rw[<-gr]at ib;have bV:eU fW:=by rw[gr];exact .inl G
 change rX.heap[fW]? =some (.cells #[.int .i64 0,.string ⟨#[]⟩,.string ⟨#[]⟩,.slice none 0 0,.slice none 0 0] _ _)at cw;replace k8:=k8.le (aZ _) ib.le;replace hM:=ib.lt hM;have:=S.size;replace S:=S.ax ib;refine ad (T.aP ?_);refine ar (A:=RT.qy (n+1)) (B:=RT.int .i64) au G G I3 q0 (QK n) G G (aZ _) k8 cf (λJy nF=>?_);refine b4 ak G G nF cf (λxx=>?_);refine bh (v':= .int .i64 q.kind) G ?_;refine ar (A:=RT.qy (n+1)) (B:=RT.fd) au G G mi q0 (Jh n) G G (aZ _) k8 cf (λu12 G4=>?_);refine ar (A:=RT.fd) (B:=RT.str) bK G G I9 q0 KI G G q0 G4 cf (λu13 Xl=>?_);refine bP aA G G G G G Xl cf (λv14 ajH=>?_);obtain rfl:=ep ajH;refine dg (places:=[(0,1),(1,1)]) bK mi UX rfl ⟨_,_,rfl,rfl,rfl⟩ (out:=[_,.string ⟨#[]⟩]) ⟨0,[_],rfl,rfl,by simp[Value.cells],rfl⟩ ?_;refine ar (A:=RT.qy (n+1)) (B:=(RT.str.sl)) au G G vS q0 (PZ n) G G (aZ _) k8 cf (λu16 Xh=>?_);refine bP aD G G G G G Xh cf (λv17 Kg=>?_);refine dg (places:=[(0,1),(1,2),(3,1),(4,1)]) au gP R3 rfl ⟨_,_,rfl,rfl,_,_,rfl,rfl,_,_,rfl,rfl,rfl⟩ (out:=[_,_,_,_,.slice none 0 0]) ⟨0,[_],rfl,rfl,by simp[Value.cells],1,[_,_],rfl,rfl,by simp[Value.cells],3,[_],rfl,iO Kg,by simp[Value.cells],rfl⟩ ?_;refine cM (M:=eU) (vs:=[.int .i64 q.kind,.string ⟨q.term.1.toArray⟩,.string ⟨#[]⟩,v17,.slice none 0 0]) gP G G a96 rfl rfl cw bV (λw5 g5 s5=>?_);have:=ae cw;replace bV:=(s5.mem _ this).2 bV;replace k8:=k8.le (aZ _) s5.le;replace Kg:=Kg.le s5.le;replace hM:=s5.lt hM;have:=S.size
 replace S:=S.trans s5 (λk hk h=>by have h:_=_:=h;subst h;first|(exfalso;omega)|(show _<=_;omega)|exact⟨by first|omega|assumption,(S.mem _ hk).1 ((s5.mem _ (ae cw)).1 bV)⟩|exact .inl rfl|exact .inr rfl|exact .inr (.inl rfl)|exact .inr (.inr rfl)|exact .inr (.inr (.inl rfl))|exact rfl);have fP:=g5;clear cw;have cw:=fP;clear fP;refine ad (aJ ?_);rw[hqb];exact jX G G au G gP G g5 ⟨Dn Xk ⟨sN.1,bm _⟩ (Kg.le (nT iF S)) ij,S.back⟩
end Go.K
namespace Go.K
open Go.Proofs
namespace TKWMay
theorem ajI:Enters Tryz.prog 299:=enters Tryz.func299 rfl q0
end TKWMay
open TKWMay
set_option maxRecDepth 10000
theorem lj {l x:List UInt8} (h1:(words l).length=1) (hx:(words l)[0]? =some x):cL l=(decide (x=l)&&decide (l.length<=30)):=by
 obtain⟨y,hy⟩:∃y,words l=[y]:=List.length_eq_one_iff.1 h1;rw[hy]at hx;have hx:y=x:=by simpa using hx
 unfold cL;rw[hy,hx,jF];simp
theorem vC {l:List UInt8} (h1: ¬(words l).length=1):cL l=false:=by
 unfold cL;rw[decide_eq_false_iff_not];rintro⟨h,_⟩;rw[h]at h1;exact h1 G
def kr (p:List Int×List (List UInt8)):Nat:=(gL p.1).length+(p.2.map List.length).sum
theorem OY {p:List Int×List (List UInt8)} {c:Int} (h:ot c=true):kr (eF p c)=kr p+(Lib.encodeRune (qp (dZ c))).length:=by
 rw[yx h];unfold kr;simp only[];rw[kf,bG];omega
theorem Bp {p:List Int×List (List UInt8)} {c:Int} (h:ot c=false):kr (eF p c)=kr p:=by
 rw[kg h];unfold kr;by_cases h0:0<p.1.length
 ·rw[if_pos h0];simp[gL];omega
 ·have:p.1=[]:=cE.1 hV;rw[if_neg h0];simp[gL,this]
theorem OZ {l:List UInt8} (h1:128<=(dec l).1) (h2:(dec l).1≠65533):2<=(dec l).2:=by
 unfold dec BU at*
 split at h1
 ·rename_i h;rw[if_pos h]at h2;simp only at h1;omega
 ·rename_i h;rw[if_neg h]at h2 ⊢
  split
  ·rename_i h3;rw[if_pos h3]at h2
   split
   ·simp only;omega
   ·rename_i h4;rw[if_neg h4]at h2;exact absurd G h2
  ·rename_i h3;rw[if_neg h3]at h2
   split
   ·rename_i h5;rw[if_pos h5]at h2
    split
    ·simp only;omega
    ·rename_i h4;rw[if_neg h4]at h2;exact absurd G h2
   ·rename_i h5;rw[if_neg h5]at h2
    split
    ·rename_i h6;rw[if_pos h6]at h2
     split
     ·simp only;omega
     ·rename_i h4;rw[if_neg h4]at h2;exact absurd G h2
    ·rename_i h6;rw[if_neg h6]at h2;exact absurd G h2
theorem O0 {c:Int} (h:ot c=true):(0<=c/\c<128/\0<=dZ c/\dZ c<128)\/(128<=c/\c<2048/\128<=dZ c/\dZ c<2048):=by
 have h1:fC c=true\/lL c=true:=by simpa[ot]using h
 simp only[fC,lL,decide_eq_true_eq]at h1;unfold dZ
 split<;>omega
theorem Bq {c:Int} (h:0<=c/\c<2048):qp c=c:=nB hV
theorem Kj {l:List UInt8} (hl:l≠[]) (h:ot ((dec l).1:Int)=true):(Lib.encodeRune (qp (dZ ((dec l).1:Int)))).length<=(dec l).2:=by
 have hw:=(ji hl).1;rcases O0 h with⟨h1,h2,h3,h4⟩|⟨h1,h2,h3,h4⟩
 ·rw[Bq hV,ZD ⟨h3,h4⟩];exact hw
 ·rw[Bq hV,ZE ⟨h3,h4⟩];exact OZ hV hV
theorem G6:∀(n:Nat) (l:List UInt8),l.length=n->∀p,kr ((dC l).foldl eF p)<=kr p+l.length/\(kr ((dC l).foldl eF p)=kr p+l.length->∀c∈dC l,ot c=true):=by
 intro n
 induction n using Nat.strongRecOn with
 |_ n ih=>
  intro l hn p;by_cases hl:l=[]
  ·subst hl;rw[lg];exact⟨br _,λ_ c hc=>by cases hc⟩
  ·have hw:=ji hl;have hd:(l.drop (dec l).2).length=l.length-(dec l).2:=cN ..;obtain⟨h1,h2⟩:=ih (l.drop (dec l).2).length hV _ rfl (eF p ((dec l).1:Int));rw[ke hl,pC]
   cases kO:ot ((dec l).1:Int)with
   |true=>
    have h3:=OY (p:=p) kO;have h4:=Kj hl kO;refine ⟨by omega,λe c hc=> ?_⟩;rcases cY.1 hc with rfl|hc
    ·exact kO
    ·exact h2 hV c hc
   |false=>
    have h3:=Bp (p:=p) kO;exact⟨by omega,λe=>by omega⟩
theorem Iv:∀(sg:List Int) (p:List Int×List (List UInt8)),(∀c∈sg,ot c=true)->sg.foldl eF p=(p.1++sg.map dZ,p.2)
 |[],p,_=>by simp
 |c::sg,p,h=>by
  rw[pC,Iv sg _ (λx hx=>h x (cn _ hx)),yx (h c (bL ..))];simp
theorem EY {l:List UInt8} (h:∀c∈dC l,ot c=true) (hn:dC l≠[]):words l=[gL ((dC l).map dZ)]:=by
 unfold words;rw[iE,Iv _ _ h];show(eF _ 32).2=_;rw[kg Md,if_pos (by simp;exact eh.2 hn)];simp
theorem zq (l:List UInt8):cL l=true↔dC l≠[]/\l.length<=30/\gL ((dC l).map dZ)=l/\∀c∈dC l,ot c=true:=by
 unfold cL;rw[decide_eq_true_iff];constructor
 ·rintro⟨h1,h2⟩
  have ie:∀c∈dC l,ot c=true:=by
   refine (G6 l.length l G ([],[])).2 ?_
   have h3:kr ((dC l++[32]).foldl eF ([],[]))=kr ((dC l).foldl eF ([],[])):=by
    rw[iE];exact Bp Md
   have h4:((dC l++[32]).foldl eF ([],[])).2=[l]:=h1
   have h5:((dC l++[32]).foldl eF ([],[])).1=[]:=by
    rw[iE];show(eF _ 32).1=[];rw[kg Md];split<;>rfl
   rw[<-h3];unfold kr;rw[h4,h5];simp[gL]
  have fq:dC l≠[]:=λe=>by
   have:words l=[]:=by unfold words;rw[e];rfl
   rw[this]at h1;cases h1
  refine⟨fq,h2,?_,ie⟩;have:=EY ie fq;rw[this]at h1;simpa using h1
 ·rintro⟨h1,h2,h3,h4⟩;exact⟨by rw[EY h4 h1,h3],h2⟩
theorem gS {l:List UInt8} (h: ¬(dC l≠[]/\l.length<=30/\gL ((dC l).map dZ)=l/\∀c∈dC l,ot c=true)):cL l=false:=fm.2 λe=>h ((zq l).1 e)
theorem Kl {M:aH} {l:List UInt8} (w0:World) (hM:Lt M w0) (hl:l.length<=3900000):
  Spec Tryz.prog 299 #[.string ⟨l.toArray⟩] w0 (λv w=>v= .bool (cL l)/\Step M w0 M w aE):=by
 refine a8 (args:=[_]) (fn:=Tryz.f299) Tryz.func299 G (n:=21) Tryz.ntmps299 ?_;have S:Step M w0 M w0 aE:=aV;refine T.aP (Rg.bg G G (T.aP (ab G G ?_)));refine aQ G G U2 (vW _ hM hl) (λr1 w1 hc=>?_);obtain⟨hr,s1⟩:=hc;replace hM:=s1.lt hM;have:=S.size;replace S:=S.ax s1;refine Rg.bg G G (T.aP (ab G G ?_));have Tc:=nD l;refine bN aD G hr G (ic G G G (ab G G ?_));refine aO (g:=9) G (λR4=>?_) (λR4=>?_)
 ·refine ah G G (ab G G (ah G G ?_));obtain⟨x,hx⟩:∃x,(words l)[0]? =some x:=⟨_,an hV⟩;refine cD aD I9 G G G hr cf hV (λu25 x_ iU ajJ=>?_);obtain rfl:=aK (hx.symm.trans iU);refine ah G G ?_;refine bP aA G G G G G ajJ cf (λv26 Xm=>?_);obtain rfl:=ep Xm;refine ah G G (ab G G (ah G G (Rg.CS G G G (aU G G G (ab G G ?_)))));refine aO (g:=16) G (λzr=>?_) (λzr=>?_)
  ·refine ah G G (ab G G (ah G G (rp aA G G (bh (v':= .int .i64 (l.length:Int)) a71 (ah G G (fQ G G G (aU G G G (Rg.bg G G (aJ ?_)))))))))
   first
   |exact aM rfl rfl ⟨congrArg Value.bool ad5,S⟩
   |exact aM G G ⟨congrArg Value.bool (by rw[lj hV hx,decide_eq_false zr,eL]),S⟩
   |exact aM G G ⟨congrArg Value.bool (by rw[vC hV]),S⟩
  ·refine aj G G G G (aj G G G G (aj G G G G (az G G G (Rg.bg G G (aJ ?_)))))
   first
   |exact aM rfl rfl ⟨congrArg Value.bool ad5,S⟩
   |exact aM G G ⟨congrArg Value.bool (by rw[lj hV hx,decide_eq_false zr,eL]),S⟩
   |exact aM G G ⟨congrArg Value.bool (by rw[vC hV]),S⟩
 ·refine aj G G G G (aj G G G G (aj G G G G (aj G G G G (aj G G G G (az G G G (ab G G (aj G G G G (aj G G G G (aj G G G G (az G G G (aF G G ?_)))))))))));refine ad (aJ ?_)
  first
  |exact aM rfl rfl ⟨congrArg Value.bool ad5,S⟩
  |exact aM G G ⟨congrArg Value.bool (by rw[lj hV hx,decide_eq_false zr,eL]),S⟩
  |exact aM G G ⟨congrArg Value.bool (by rw[vC hV]),S⟩
theorem TY {M:aH} {l:List UInt8} (w0:World) (hM:Lt M w0) (hl:l.length<=3900000):
  Spec Tryz.prog 266 #[.string ⟨l.toArray⟩] w0 (λv w=>v= .bool (!cL l)/\Step M w0 M w aE):=by
 refine a8 (args:=[_]) (fn:=Tryz.f266) Tryz.func266 G (n:=6) Tryz.ntmps266 (T.aP (Rg.bg G G (T.aP (ab G G ?_))));refine aQ G G ajI (Kl _ hM hl) (λr1 w1 hc=>?_);obtain⟨rfl,s1⟩:=hc;refine iv G G (Rg.bg G G (aJ ?_));exact aM G G ⟨G,s1⟩
end Go.K
namespace Go.K
open Go.Proofs
namespace TKQOwn
theorem zn:TI Tryz.prog 26 (.slice none 0 0) 1 24:=by unfold TI;kernel_rfl
theorem ajK:Enters Tryz.prog 202:=enters Tryz.func202 rfl q0
theorem ajL:Enters Tryz.prog 203:=enters Tryz.func203 rfl q0
theorem ajM:Enters Tryz.prog 204:=enters Tryz.func204 rfl q0
theorem ajN:Enters Tryz.prog 207:=enters Tryz.func207 rfl q0
theorem ajO:Enters Tryz.prog 208:=enters Tryz.func208 rfl q0
theorem acb:Enters Tryz.prog 266:=enters Tryz.func266 rfl q0
theorem ajP:Enters Tryz.prog 268:=enters Tryz.func268 rfl q0
theorem ajQ:Enters Tryz.prog 269:=enters Tryz.func269 rfl q0
theorem ajR:Enters Tryz.prog 300:=enters Tryz.func300 rfl q0
end TKQOwn
open TKQOwn
set_option maxRecDepth 10000
theorem G7 {M:aH} {l:List (List UInt8)} {v:Value} (w0:World) (hM:Lt M w0) (hv:(RT.str.sl).V M w0 l v) (hb:∀x∈l,x.length<=3900000):
  Spec Tryz.prog 300 #[v,.func (.func 266) #[] #[]] w0 (λv' w=>∃k:Int,v'= .int .i64 k/\ -1<=k/\(0<=k↔l.all cL=false)/\Step M w0 M w aE):=by
 have hlen:=dQ hv;refine a8 (args:=[_,_]) (fn:=Tryz.f300) Tryz.func300 G (n:=19) Tryz.ntmps300 ?_;have S:Step M w0 M w0 aE:=aV;refine T.aP (Rg.bg G G (aN (T.aP (ab G G (bN aD G hv G (ab G G (ad (aY ?_))))))));refine dz (σ:=Nat) (λi=>[(0,v),(1,.func (.func 266) #[] #[]),(7,.int .i64 (l.length:Int)),(8,.int .i64 (i:Int))]) (λi w=>i<=l.length/\Lt M w/\Step M w0 M w aE/\(RT.str.sl).V M w l v/\∀(j:Nat) x,j<i->l[j]? =some x->cL x=true) (λi=>l.length-i) 0 Uc ?_ ?_
 ·exact⟨bm _,hM,S,hv,λj x h=>absurd h (fB _)⟩
 ·clear hM S hv;rintro i w ⟨hi,hM,S,hv,ie⟩;refine T.aP (cy G G G (ad (aN ?_)));refine bF G (λc2=>?_) (λc2=>?_)
  ·refine aR (aN (aY (T.aP (ab G G (Rg.bg G G (T.aP (ab G G (ab G G ?_))))))));refine ab G G ?_;obtain⟨x,hx⟩:∃x,l[i]? =some x:=⟨_,an hV⟩;have Mw:=hb x (ao hx);refine cD aD I9 G G G hv cf hV (λu43 x_ iU ajS=>?_);rw[aw]at iU;obtain rfl:=aK (hx.symm.trans iU);refine bP aA G G G G G ajS cf (λv44 ajT=>?_);obtain rfl:=ep ajT;refine uk (first:=[]) (captured:=[]) (xs:=[.tmp 15]) G G G acb (TY (l:=x) _ hM Mw) (λr4 w4 hc=>?_);obtain⟨rfl,s4⟩:=hc;refine bh (v':= .bool (decide (cL x=false))) (by cases cL x<;>rfl) ?_;replace hv:=hv.le s4.le;replace hM:=s4.lt hM;have:=S.size;replace S:=S.ax s4;refine ad ?_;refine bF G (λc4=>?_) (λc4=>?_)
   ·refine T.aP (ab G G (Rg.bg G G (aJ ?_)));exact aM rfl rfl ⟨_,rfl,by omega,⟨λ_=>List.all_eq_false.2 ⟨x,ao hx,by rw[c4];decide⟩,λ_=>by omega⟩,S⟩
   ·refine aR (aL (bB G G G hV (ab G G (ad ?_))));refine⟨G,i+1,Uc,?_,?_⟩
    ·refine ⟨by omega,hM,S,hv,λj y hj hy=> ?_⟩;rcases cK j i with h|h
     ·exact ie j y h hy
     ·obtain rfl:j=i:=by omega
      rw[hx]at hy;cases hy;simpa using c4
    ·omega
  ·refine cQ (T.aP (Rg.bg G G (aJ ?_)))
   exact aM G G ⟨-1,G,by omega,⟨λh=>by omega,λh=>by
    obtain⟨x,hx,hn⟩:=List.all_eq_false.1 h;obtain⟨j,hj⟩:=bO.1 hx;exact absurd (ie j x (by have:=(al.1 hj).1;omega) hj) hn⟩,S⟩
theorem EZ {M:aH} {l:List (List UInt8)} {v:Value} (w0:World) (hM:Lt M w0) (hv:(RT.str.sl).V M w0 l v) (hb:∀x∈l,x.length<=3900000):
  Spec Tryz.prog 268 #[v,.func (.func 266) #[] #[]] w0 (λv' w=>v'= .bool (decide (l.all cL=false))/\Step M w0 M w aE):=by
 refine a8 (args:=[_,_]) (fn:=Tryz.f268) Tryz.func268 G (n:=9) Tryz.ntmps268 (T.aP (Rg.bg G G (T.aP (ab G G (ab G G ?_)))));refine aQ G G ajR (G7 _ hM hv hb) (λr1 w1 hc=>?_);obtain⟨k,rfl,pD,BF,s1⟩:=hc;refine ed G G G (Rg.bg G G (aJ ?_));exact aM G G ⟨congrArg Value.bool (decide_eq_decide.2 BF),s1⟩
theorem G8 {M:aH} {n:Nat} {q:Qy} {v:Value} (w0:World) (hM:Lt M w0) (hv:(RT.qy (n+1)).V M w0 q v) (hb:q.term.2.length<=3900000):
  Spec Tryz.prog 204 #[v] w0 (λv w=>v= .int .i64 (if eA q.term.1=false then 4 else if cL q.term.2=true then 0 else 9)/\Step M w0 M w aE):=by
 have qC:=hv;refine a8 (args:=[_]) (fn:=Tryz.f204) Tryz.func204 G (n:=14) Tryz.ntmps204 ?_;have S:Step M w0 M w0 aE:=aV;refine T.aP ?_;refine fD (A:=RT.qy (n+1)) (a:=q) G G hM hv (eB _) (λu1 Kf k8 j8 _=>?_);replace hv:=hv.le j8.le;replace hM:=j8.lt hM;have:=S.size;replace S:=S.ax j8;refine Rg.bg G G (aN (aY (T.aP ?_)));refine ar (A:=RT.qy (n+1)) (B:=RT.fd) au G G mi q0 (Jh n) G G (aZ _) k8 cf (λJy nF=>?_);refine ar (A:=RT.fd) (B:=RT.str) bK G G I9 q0 KI G G q0 nF cf (λu11 O1=>?_);refine bP aA G G G G G O1 cf (λv12 O2=>?_);obtain rfl:=ep O2;obtain⟨_,_,_,_,sN,_,_⟩:=mO qC;refine aQ G G U0 (uN q.term.1 sN.1 _) (λr13 Wc hc=>?_);obtain⟨rfl,Xn⟩:=hc;have tB:=Xn M;replace k8:=k8.le (aZ _) tB.le;replace hM:=tB.lt hM;have:=S.size;replace S:=S.ax tB;refine iv rfl rfl (bh (v':= .bool (decide (eA q.term.1=false))) (by cases eA q.term.1<;>rfl) (Rg.bg rfl rfl ?_));refine bF G (λc1=>?_) (λc1=>?_)
 ·refine T.aP (Rg.bg G G (aJ ?_));exact aM rfl rfl ⟨by rw[if_pos c1],S⟩
 ·refine T.aP ?_;refine ar (A:=RT.qy (n+1)) (B:=RT.fd) au G G mi q0 (Jh n) G G (aZ _) k8 cf (λu30 Xo=>?_);refine ar (A:=RT.fd) (B:=RT.str) bK G G I9 q0 SP G G q0 Xo cf (λu31 Xp=>?_);refine bP aA G G G G G Xp cf (λv32 Xq=>?_);obtain rfl:=ep Xq;refine aQ G G acb (TY _ hM hb) (λr33 w33 hc=>?_);obtain⟨rfl,vD⟩:=hc;refine bh (v':= .bool (decide (cL q.term.2=false))) (by cases cL q.term.2<;>rfl) ?_;replace k8:=k8.le (aZ _) vD.le;replace hM:=vD.lt hM;have:=S.size;replace S:=S.ax vD;refine Rg.bg G G ?_;refine bF G (λc3=>?_) (λc3=>?_)
  ·refine T.aP (Rg.bg G G (aJ ?_));exact aM rfl rfl ⟨by rw[if_neg c1,if_neg (by rw[c3];decide)],S⟩
  ·refine aR (T.aP (Rg.bg G G (aJ ?_)));exact aM rfl rfl ⟨by rw[if_neg c1,if_pos (by simpa using c3)],S⟩
theorem Cy {M:aH} {n:Nat} {q:Qy} {v:Value} (w0:World) (hM:Lt M w0) (hv:(RT.qy (n+1)).V M w0 q v) (hb:∀x∈q.words,x.length<=3900000):
  Spec Tryz.prog 208 #[v] w0 (λv w=>v= .int .i64 (if eA q.term.1=false then 4 else if q.words=[]then 9 else if q.words.all cL=false then 9 else if 6<q.words.length then 7 else 0)/\Step M w0 M w aE):=by
 have qC:=hv;refine a8 (args:=[_]) (fn:=Tryz.f208) Tryz.func208 G (n:=24) Tryz.ntmps208 ?_;have S:Step M w0 M w0 aE:=aV;refine T.aP ?_;refine fD (A:=RT.qy (n+1)) (a:=q) G G hM hv (eB _) (λu1 Kf k8 j8 _=>?_);replace hv:=hv.le j8.le;replace hM:=j8.lt hM;have:=S.size;replace S:=S.ax j8;refine Rg.bg G G (aN (aY (T.aP ?_)));refine ar (A:=RT.qy (n+1)) (B:=RT.fd) au G G mi q0 (Jh n) G G (aZ _) k8 cf (λJy nF=>?_);refine ar (A:=RT.fd) (B:=RT.str) bK G G I9 q0 KI G G q0 nF cf (λu11 O1=>?_);refine bP aA G G G G G O1 cf (λv12 O2=>?_);obtain rfl:=ep O2;obtain⟨_,_,_,_,sN,_,_⟩:=mO qC;refine aQ G G U0 (uN q.term.1 sN.1 _) (λr13 Wc hc=>?_);obtain⟨rfl,Xn⟩:=hc;have tB:=Xn M;replace k8:=k8.le (aZ _) tB.le;replace hM:=tB.lt hM;have:=S.size;replace S:=S.ax tB;refine iv rfl rfl (bh (v':= .bool (decide (eA q.term.1=false))) (by cases eA q.term.1<;>rfl) (Rg.bg rfl rfl ?_));refine bF G (λc1=>?_) (λc1=>?_)
 ·refine T.aP (Rg.bg G G (aJ ?_));exact aM rfl rfl ⟨by rw[if_pos c1],S⟩
 ·refine T.aP ?_;refine ar (A:=RT.qy (n+1)) (B:=(RT.str.sl)) au G G vS q0 (PZ n) G G (aZ _) k8 cf (λu30 Xo=>?_);refine bP aD G G G G G Xo cf (λv31 R5=>?_);have Tc:=dQ R5;refine bN aD G R5 G (ic G G G (ab G G ?_));refine aO (g:=14) G (λJD=>?_) (λJD=>?_)
  ·refine aj G G G G (aj G G G G (aj G G G G (aU G G G (Rg.bg G G (kJ G (T.aP (Rg.bg G G (aJ ?_))))))))
   first
   |exact aM rfl rfl ⟨by rw[if_neg c1,if_pos (cE.1 hV)],S⟩
   |exact aM rfl rfl ⟨by rw[if_neg c1,if_neg (λe=>JD (by rw[e];rfl)),if_pos c3],S⟩
  ·refine ah G G ?_;refine ar (A:=RT.qy (n+1)) (B:=(RT.str.sl)) au G G vS q0 (PZ n) G G (aZ _) k8 cf (λu35 ajU=>?_);refine ah G G ?_;refine bP aD G G G G G ajU cf (λv36 ajV=>?_);refine ah G G ?_;refine aQ G G ajP (EZ _ hM ajV hb) (λr37 w37 hc=>?_);obtain⟨rfl,s37⟩:=hc;replace k8:=k8.le (aZ _) s37.le;replace hM:=s37.lt hM;have:=S.size;replace S:=S.ax s37;refine az G G G (Rg.bg G G ?_);refine bF G (λc3=>?_) (λc3=>?_)
   ·refine T.aP (Rg.bg G G (aJ ?_))
    first
    |exact aM rfl rfl ⟨by rw[if_neg c1,if_pos (cE.1 hV)],S⟩
    |exact aM rfl rfl ⟨by rw[if_neg c1,if_neg (λe=>JD (by rw[e];rfl)),if_pos c3],S⟩
   ·have fq: ¬q.words=[]:=λe=>JD (by rw[e];rfl)
    refine T.aP ?_;refine ar (A:=RT.qy (n+1)) (B:=(RT.str.sl)) au G G vS q0 (PZ n) G G (aZ _) k8 cf (λu50 Xr=>?_);refine bP aD G G G G G Xr cf (λv51 ajX=>?_);refine bN aD G ajX G (fU G G G (Rg.bg G G ?_));refine bF G (λc5=>?_) (λc5=>?_)
    ·refine T.aP (Rg.bg G G (aJ ?_));exact aM rfl rfl ⟨by rw[if_neg c1,if_neg fq,if_neg c3,if_pos hV],S⟩
    ·refine aR (T.aP (Rg.bg G G (aJ ?_)));exact aM rfl rfl ⟨by rw[if_neg c1,if_neg fq,if_neg c3,if_neg hV],S⟩
theorem G9 {M:aH} {n:Nat} {q:Qy} {v:Value} (w0:World) (hM:Lt M w0) (hv:(RT.qy (n+1)).V M w0 q v) {b:Nat} {most:Int} (hb:w0.heap[b]? =some (.cells #[.int .i64 most] 3 (0,0))):
  Spec Tryz.prog 269 #[v,.pointer (some ⟨b,0,none⟩)] w0 (λv w=>v= .int .i64 (if q.kids.length=0 then 9 else if most<q.kids.length then 7 else 0)/\Step M w0 M w aE):=by
 refine a8 (args:=[_,_]) (fn:=Tryz.f269) Tryz.func269 G (n:=15) Tryz.ntmps269 ?_;have S:Step M w0 M w0 aE:=aV;refine T.aP ?_;refine fD (A:=RT.qy (n+1)) (a:=q) G G hM hv (eB _) (λu2 Kf eS j8 _=>?_);replace hv:=hv.le j8.le;replace hM:=j8.lt hM;have:=S.size;replace S:=S.ax j8;refine Rg.bg G G (aN (T.aP ?_));refine ar (A:=RT.qy (n+1)) (B:=((RT.qy n).sl (aZ n))) au G G zn Nat.one_pos (LN n) G G (aZ _) eS cf (λJy nF=>?_);refine bP ck G G G G G nF cf (λv11 acd=>?_);have Fs:=dQ acd;refine bN (A:=RT.qy n) (hn:=aZ _) ck G acd G (Rg.bg G G (aY (T.aP (ab G G (ic G G G (Rg.bg G G ?_))))));refine bF G (λc2=>?_) (λc2=>?_)
 ·refine T.aP (Rg.bg G G (aJ ?_));exact aM rfl rfl ⟨by rw[if_pos hV],S⟩
 ·refine T.aP (ab G G (aG ak G G G (S.aB hb) G (bh (v':= .int .i64 most) G (fU G G G (Rg.bg G G ?_)))));refine bF G (λc4=>?_) (λc4=>?_)
  ·refine T.aP (Rg.bg G G (aJ ?_));exact aM rfl rfl ⟨by rw[if_neg hV,if_pos hV],S⟩
  ·refine aR (T.aP (Rg.bg G G (aJ ?_)));exact aM rfl rfl ⟨by rw[if_neg hV,if_neg hV],S⟩
structure SzO (t:Fd) (ws:List (List UInt8)):Prop where
 t2:t.2.length<=3900000
 w:∀x∈ws,x.length<=3900000
mutual
def Ha:Qy->Prop
 |.mk _ t ws ks=>SzO t ws/\Km ks
def Km:List Qy->Prop
 |[]=>True
 |q::ks=>Ha q/\Km ks
end
theorem O3 {ks:List Qy}:Km ks↔∀q∈ks,Ha q:=by
 induction ks with
 |nil=>simp[Km]
 |cons q ks ih=>rw[Km,ih,List.forall_mem_cons]
theorem YB {q:Qy}:Ha q↔SzO q.term q.words/\∀x∈q.kids,Ha x:=by
 obtain⟨k,t,ws,ks⟩:=q;rw[Ha,O3];rfl
theorem Iw {k:Int} {t:Fd} {ws:List (List UInt8)} {ks:List Qy} (hk:1<=k/\k<=5) (h: ¬Qy.mk k t ws ks=j9 (.mk k t ws ks)):j5 k t ws ks.length=9:=by
 unfold j5;rw[if_neg hV];rw[j9]at h;by_cases h1:k=1
 ·rw[if_pos h1]at h;rw[if_neg hV,if_pos];by_cases hk:ks=[]
  ·exact .inr (.inl ⟨h1,λhw=>h (by rw[hk,hw])⟩)
  ·exact .inl (eh.2 hk)
 rw[if_neg h1]at h;by_cases h5:k=5
 ·rw[if_pos h5]at h;rw[if_neg hV,if_pos];by_cases hk:ks=[]
  ·exact .inr (.inr ⟨h5,λhw=>h (by rw[hk,<-hw])⟩)
  ·exact .inl (eh.2 hk)
 rw[if_neg h5]at h;rw[if_pos hV,if_pos];by_cases ht:t=([],[])
 ·exact .inr (.inl λhw=>h (by rw[ht,hw]))
 ·exact .inl ht
theorem Ix {k:Int} {t:Fd} {ws:List (List UInt8)} {n:Nat} (hk: ¬(1<=k/\k<=5)):j5 k t ws n=9:=by
 unfold j5;rw[if_pos hV]
theorem O4 {k:Int} {t:Fd} {ws:List (List UInt8)} {ks:List Qy} (hk:k=1) (h:Qy.mk k t ws ks=j9 (.mk k t ws ks)):j5 k t ws ks.length=if eA t.1=false then 4 else if cL t.2=true then 0 else 9:=by
 rw[j9]at h;rw[if_pos hk]at h;injection h with _ _ h1 h2
 subst h1 h2;unfold j5;rw[if_neg hV,if_neg hV,if_neg a08,if_pos hk]
theorem Hb {k:Int} {t:Fd} {ws:List (List UInt8)} {ks:List Qy} (hk:k=5) (h:Qy.mk k t ws ks=j9 (.mk k t ws ks)):j5 k t ws ks.length=if eA t.1=false then 4 else if ws=[]then 9 else if ws.all cL=false then 9 else if 6<ws.length then 7 else 0:=by
 rw[j9]at h;rw[if_neg hV,if_pos hk]at h;injection h with _ h0 _ h2
 subst h2;have h0:t.2=[]:=congrArg Prod.snd h0;unfold j5;rw[if_neg hV,if_neg hV,if_neg (by simp[h0];omega),if_neg (show¬k=1 by omega)]
theorem O5 {k:Int} {t:Fd} {ws:List (List UInt8)} {ks:List Qy} (hk:k=2\/k=3\/k=4) (h:Qy.mk k t ws ks=j9 (.mk k t ws ks)):j5 k t ws ks.length=if ks.length=0 then 9 else if(if k=4 then 1 else 8:Int)<ks.length then 7 else 0:=by
 rw[j9]at h;rw[if_neg hV,if_neg hV]at h;injection h with _ h0 h1 _
 subst h0 h1;unfold j5;rw[if_neg hV,if_pos hV];by_cases h2:ks.length=0
 ·rw[if_pos (.inr (.inr h2)),if_pos h2]
 ·rw[if_neg (by simp;exact λe=>h2 (by rw[e];rfl)),if_neg h2];by_cases h4:k=4
  ·rw[if_pos h4];by_cases h5:(1:Int)<ks.length
   ·rw[if_pos h5,if_pos (.inr ⟨h4,by omega⟩)]
   ·rw[if_neg h5,if_neg hV]
  ·rw[if_neg h4];by_cases h5:(8:Int)<ks.length
   ·rw[if_pos h5,if_pos (.inl hV)]
   ·rw[if_neg h5,if_neg hV]
theorem KV.use {q:Qy} {a b c d:Value} {w0:World} (hK:KV q.kind (.agg #[a,b,c,d]) w0) (hk:1<=q.kind/\q.kind<=5) (hs:SzO q.term q.words):∃bf mf cap,b= .func (.func bf) #[] #[]/\c= .func (.func mf) #[] (cap:List Value).toArray/\Enters Tryz.prog bf/\Enters Tryz.prog mf/\
  (∀{M:aH} {n:Nat} {w:World} {v:Value},Lt M w->(RT.qy (n+1)).V M w q v->Spec Tryz.prog bf #[v] w (λr w'=>(RT.qy (n+1)).V M w' (j9 q) r/\Step M w M w' aE))/\
  (∀{M:aH} {n:Nat} {w:World} {v:Value},Lt M w->(RT.qy (n+1)).V M w q v->KV q.kind (.agg #[a,b,c,d]) w->q=j9 q->Spec Tryz.prog mf (v::cap).toArray w (λr w'=>r= .int .i64 (j5 q.kind q.term q.words q.kids.length)/\Step M w M w' aE)):=by
 obtain⟨k,t,ws,ks⟩:=q;have CH:t.2.length<=3900000:=hs.t2;have hsw:∀x∈ws,x.length<=3900000:=hs.w;have hk:1<=k/\k<=5:=hk;rcases hK with⟨h1,h2⟩|⟨h1,h2⟩|⟨h1,b',wd,fv,h2,h3⟩|⟨h1,h2⟩
 ·simp only[Value.agg.injEq,Array.mk.injEq,xB]at h2;obtain⟨rfl,rfl,rfl,rfl,_⟩:=h2;exact⟨_,_,[],G,G,ajL,ajM,λhM hv=>Ki _ hM hv h1,λhM hv _ e=>(G8 _ hM hv CH).mono λr w' h=>⟨h.1.trans (congrArg _ (O4 h1 e).symm),h.2⟩⟩
 ·simp only[Value.agg.injEq,Array.mk.injEq,xB]at h2;obtain⟨rfl,rfl,rfl,rfl,_⟩:=h2;exact⟨_,_,[],G,G,ajN,ajO,λhM hv=>EX _ hM hv h1,λhM hv _ e=>(Cy _ hM hv hsw).mono λr w' h=>⟨h.1.trans (congrArg _ (Hb h1 e).symm),h.2⟩⟩
 ·simp only[Value.agg.injEq,Array.mk.injEq,xB]at h2;obtain⟨rfl,rfl,rfl,rfl,_⟩:=h2;refine ⟨_,_,[.pointer (some ⟨b',0,none⟩)],G,G,ajK,ajQ,λhM hv=>Kh _ hM hv h1,λhM hv Qb e=> ?_⟩;have h1:k=2\/k=3\/k=4:=h1;rcases Qb with⟨h4,_⟩|⟨h4,_⟩|⟨_,b2,wd2,fv2,h4,h5⟩|⟨h4,_⟩
  ·have h4:k=1:=h4;omega
  ·have h4:k=5:=h4;omega
  ·simp only[Value.agg.injEq,Array.mk.injEq,xB,Value.func.injEq,Value.pointer.injEq,Option.some.injEq,Addr.mk.injEq]at h4;obtain⟨_,_,⟨_,_,⟨rfl,_⟩,_⟩,_⟩:=h4;exact(G9 _ hM hv h5).mono λr w' h=>⟨h.1.trans (congrArg _ (O5 h1 e).symm),h.2⟩
  ·have h4:k<1\/5<k:=h4;omega
 ·have h1:k<1\/5<k:=h1;omega
end Go.K
namespace Go.K
open Go.Proofs
set_option maxRecDepth 10000
mutual
theorem TZ:∀q,Aa 1048576 q->Ha q
 |.mk k t ws ks,h=>YB.2 ⟨⟨by have:=h.1.2.1;show t.2.length<=3900000;omega,λx hx=>by have:=h.1.2.2 x hx;omega⟩,O6 ks h.2⟩
theorem O6:∀ks,AP 1048576 ks->∀x∈ks,Ha x
 |[],_=>λx hx=>by cases hx
 |q::ks,h=>λx hx=>by
  rcases cY.1 hx with e|e
  ·rw[e];exact TZ q h.1
  ·exact O6 ks h.2 x e
end
end Go.K
namespace Go.K
open Go.Proofs
namespace TKSearch
theorem abm:Enters Tryz.prog 159:=enters Tryz.func159 rfl q0
theorem abn:Enters Tryz.prog 160:=enters Tryz.func160 rfl q0
theorem abo:Enters Tryz.prog 201:=enters Tryz.func201 rfl q0
end TKSearch
open TKSearch
set_option maxRecDepth 10000
theorem Hc {w0:World} {x:Int}:
  Spec Tryz.prog 160 #[.int .i64 x] w0 (λv' w'=>v'= .bool (decide False)/\w0=w'):=by
 refine a8 (args:=[_]) (fn:=Tryz.f160) Tryz.func160 G (n:=6) Tryz.ntmps160 (T.aP (Rg.bg G G (T.aP (ab G G (ab G G (eW G G G (Rg.bg G G ?_)))))));refine aJ ?_;exact aM rfl rfl ⟨by simp,rfl⟩
theorem Cz {w0:World} {x:Int}:
  Spec Tryz.prog 201 #[.int .i64 x] w0 (λv' w'=>v'= .bool (decide False)/\w0=w'):=by
 refine a8 (args:=[_]) (fn:=Tryz.f201) Tryz.func201 G (n:=6) Tryz.ntmps201 (T.aP (Rg.bg G G (T.aP (ab G G (ab G G (eW G G G (Rg.bg G G ?_)))))));refine aJ ?_;exact aM rfl rfl ⟨by simp,rfl⟩
theorem Kn {w0:World} {x y:Int}:
  Spec Tryz.prog 159 #[.int .i64 x,.int .i64 y] w0 (λv' w'=>v'= .bool (decide (x<y))/\w0=w'):=by
 refine a8 (args:=[_,_]) (fn:=Tryz.f159) Tryz.func159 G (n:=17) Tryz.ntmps159 (T.aP (Rg.bg G G (T.aP (ab G G ?_))));refine aQ G G abo (Cz) (λr wc h=>?_);obtain⟨rfl,rfl⟩:=h;refine ab G G (Rg.Fw (g:=7) G ((λh=>h)) (aj G G G G (aj G G G G (aj G G G G (az G G G (ab G G (ah G G (ab G G (ah G G (ab G G (ah G G ?_)))))))))));refine cy G G G (az G G G (Rg.bg G G (aJ ?_)));exact ai8
theorem E0 {M:aH} {w0:World} {v:Value} {l:List Int} {x:Int} (hv:((RT.int .i64).sl).V M w0 l v) (hr:l.Pairwise (· < ·)):
  Spec Tryz.prog 103 #[v,.int .i64 x] w0 (λv' w'=>∃i:Int,v'= .tuple #[.int .i64 i,.bool (l.contains x)]/\w0=w'):=by
 have hlen:=dQ hv;refine a8 (args:=[_,_]) (fn:=Tryz.f103) Tryz.func103 G (n:=54) Tryz.ntmps103 (T.aP (aF G G (Rg.bg G G (T.aP (ab G G (bN av G hv G (Rg.bg G G ?_)))))));refine T.aP (ab G G (aF G G (Rg.bg G G (aN (aY ?_)))));refine dz (σ:=Nat×Nat) (λs=>[(0,v),(1,.int .i64 x),(6,.int .i64 l.length),(7,.int .i64 s.1),(8,.int .i64 s.2)]) (λs w=>w0=w/\s.1<=s.2/\s.2<=l.length/\(∀t y,t<s.1->l[t]? =some y->y<x)/\(∀t y,s.2<=t->l[t]? =some y->x<=y)) (λs=>s.2-s.1) (0,l.length) a65 ?_ ?_
 ·exact⟨G,bm _,br _,λt y h=>absurd h (fB _),λt y h hy=>by have:=(al.1 hy).1;simp only at h;omega⟩
 ·rintro⟨i,j⟩ w1 ⟨rfl,jf,hj,h1,h2⟩;dsimp only at jf hj h1 h2 ⊢;refine aN (T.aP (ab G G (ab G G (cy G G G (ad ?_)))));refine bF G (λc3=>?_) (λc3=>?_)
  ·refine aR (aY (T.aP (ab G G (ab G G (bB G G G hV (vJ ak Tryz.underlying262 rfl rfl (bh (v':= .int .u64 ((i+j:Nat):Int)) (congrArg _ (by rw[IntWalk.u64_in _ hV];omega)) (Rg.shr rfl rfl rfl hV (bh (v':= .int .u64 (((i+j)/2:Nat):Int)) (congrArg _ (ajw _)) (Rg.uu Tryz.underlying262 ak rfl rfl hV ?_))))))))));refine Rg.bg G G (T.aP (ab G G (ab G G ?_)));obtain⟨y,hy⟩:∃y,l[(i+j)/2]? =some y:=⟨_,an hV⟩;refine cD av I3 G G G (hv) cf a42 (λaa4 ajY ace tF=>?_);obtain rfl:y=ajY:=dJ (aK (ace.symm.trans (by rw[aw];exact hy)));refine b4 (M:=M) ak G G Ub (by repeat (first|exact bI _ _|refine aX (bJ Ub) ?_)) (λNS=>?_);refine bh (v':= .int .i64 (y)) G ?_;replace NS: -9223372036854775808<=(y:Int)/\y<=9223372036854775807:=NS;refine ab G G ?_;refine aQ G G abm (Kn) (λr wc h=>?_);obtain⟨rfl,rfl⟩:=h;refine ad ?_;refine bF G (λc5=>?_) (λc5=>?_)
   ·refine aL (ab G G (bB G G G hV (Rg.bg G G ?_)));refine⟨G,((i+j)/2+1,j),a65,?_,?_⟩
    ·refine⟨rfl,by simp only;omega,hj,λt z ht hz=>?_,h2⟩;rcases cK t ((i+j)/2)with h|h
     ·have:=Cv hr hz hy h;omega
     ·rw[show t=(i+j)/2 from by simp only at ht;omega,hy]at hz;cases hz;exact c5
    ·simp only;omega
   ·refine aL (ab G G (Rg.bg G G ?_));refine⟨G,(i,(i+j)/2),a65,?_,?_⟩
    ·refine ⟨rfl,by simp only;omega,by simp only;omega,h1,λt z ht hz=> ?_⟩;rcases cK ((i+j)/2) t with h|h
     ·have:=Cv hr hy hz h;omega
     ·rw[show t=(i+j)/2 from by simp only at ht;omega,hy]at hz;cases hz;omega
    ·simp only;omega
  ·refine cQ (T.aP (ab G G (ab G G (ab G G (cy G G G (ab G G ?_))))));refine aO (g:=35) G (λajZ=>?_) (λajZ=>?_)
   ·refine ah G G (ab G G (ah G G (ab G G (ah G G ?_))));obtain⟨y,hy⟩:∃y,l[i]? =some y:=⟨_,an hV⟩;refine cD av I3 G G G (hv) cf a42 (λasW aj0 acf anS=>?_);obtain rfl:y=aj0:=dJ (aK (acf.symm.trans (by rw[aw];exact hy)));refine ah G G ?_;refine b4 (M:=M) ak G G Ub (by repeat (first|exact bI _ _|refine aX (bJ Ub) ?_)) (λT0=>?_);refine bh (v':= .int .i64 (y)) G ?_;replace T0: -9223372036854775808<=(y:Int)/\y<=9223372036854775807:=T0;refine ah G G (ab G G (ah G G (ic G G G (ah G G (ab G G ?_)))));refine aO (g:=42) G (λzt=>?_) (λzt=>?_)
    ·refine aj G G G G (aj G G G G (aj G G G G (aj G G G G (aj G G G G (aj G G G G (cC G G G (cC G G G (aj G G G G (ah G G (aU G G G (aU G G G ?_)))))))))));refine aF G G (Rg.bg G G (aJ ?_));have O7:=G2 hr h1 (λt y ht hy=>h2 t y hV hy)
     first
     |exact af0
     |exact ad6
     |exact eX rfl rfl rfl ⟨_,by rw[O7,dE hV,decide_eq_false (by simp)],G⟩
    ·refine ah G G (ab G G (ah G G (ab G G (ah G G ?_))));refine cD av I3 G G G (hv) cf a42 (λanT acg Xs aj1=>?_);obtain rfl:y=acg:=dJ (aK (Xs.symm.trans (by rw[aw];exact hy)));refine ah G G ?_;refine b4 (M:=M) ak G G Ub (by repeat (first|exact bI _ _|refine aX (bJ Ub) ?_)) (λO8=>?_);refine bh (v':= .int .i64 (y)) G ?_;replace O8: -9223372036854775808<=(y:Int)/\y<=9223372036854775807:=O8;refine ah G G ?_;refine aQ G G abn (Hc) (λr wc h=>?_);obtain⟨rfl,rfl⟩:=h;refine ah G G (ab G G (Rg.Fw (g:=48) G ((λh=>h)) (aj G G G G (aj G G G G (ah G G (az G G G (ah G G (az G G G (aU G G G (aF G G (aF G G ?_)))))))))));refine ad (aJ ?_);have O7:=G2 hr h1 (λt y ht hy=>h2 t y hV hy)
     first
     |exact af0
     |exact ad6
     |exact eX rfl rfl rfl ⟨_,by rw[O7,dE hV,decide_eq_false (by simp)],G⟩
   ·refine aj G G G G (aj G G G G (aj G G G G (aj G G G G (aj G G G G (aj G G G G (aj G G G G (cC G G G (cC G G G (cC G G G (cC G G G (cC G G G ?_)))))))))));refine cC G G G (cC G G G (cC G G G (cC G G G (aj G G G G (az G G G (aF G G (Rg.bg G G (aJ ?_))))))));have O7:=G2 hr h1 (λt y ht hy=>h2 t y hV hy)
    first
    |exact af0
    |exact ad6
    |exact eX rfl rfl rfl ⟨_,by rw[O7,dE hV,decide_eq_false (by simp)],G⟩
end Go.K
namespace Go.K
open Go.Proofs
namespace TKSides2
theorem aj2:Enters Tryz.prog 103:=enters Tryz.func103 rfl q0
end TKSides2
open TKSides2
set_option maxRecDepth 10000
theorem Br {M:aH} {w0:World} {v:Value} {ls:List (List Int)} (hv:(((RT.int .i64).sl).sl).V M w0 ls v) (hg:∀l∈ls,TU l) (PV:ls.length<=1000):
  Spec Tryz.prog 54 #[v] w0 (λv' w'=>v'= .int .i64 (Ip ls)/\w0=w'):=by
 have hlen:=dQ hv;refine a8 (args:=[_]) (fn:=Tryz.f54) Tryz.func54 G (n:=49) Tryz.ntmps54 (T.aP (Rg.bg G G (aN (T.aP (ab G G (bN gp G hv G (ic G G G (ad ?_))))))));refine bF G (λc1=>?_) (λc1=>?_)
 ·refine T.aP (Rg.bg G G (aJ ?_));have:ls=[]:=cE.1 hV;subst this;exact ai8
 ·obtain⟨l0,tl,rfl⟩:∃l0 tl,ls=l0::tl:=by
   cases ls with
   |nil=>simp at c1
   |cons a b=>exact⟨a,b,rfl⟩
  have sN:tl.length<=1000:=by simp only[cz]at PV;omega
  have hlc:(l0::tl).length=tl.length+1:=rfl;refine aR (T.aP (Rg.bg G G (aN (T.aP (ab G G ?_)))));refine cD gp pb G G G (hv) cf a42 (λZY aj3 ach Ti=>?_);obtain rfl:l0=aj3:=dJ (aK (ach.symm.trans rfl));refine bP av G G G G G Ti cf (λv16 R6=>?_);replace R6:((RT.int .i64).sl).V M w0 l0 v16:=R6;have Rr:=hg l0 (bL ..);have asX:=Rr.2.2;refine bN av G R6 G (ab G G (ad (aY ?_)));refine dz (σ:=Nat) (λs=>[(0,v),(3,.int .i64 (As tl l0 s)),(16,v16),(17,.int .i64 l0.length),(18,.int .i64 s)]) (λs w=>w0=w/\s<=l0.length) (λs=>l0.length-s) 0 a65 ?_ ?_
  ·exact⟨G,bm _⟩
  ·rintro i w1 ⟨rfl,hi⟩;refine T.aP (cy G G G (ad (aN ?_)));refine bF G (λc5=>?_) (λc5=>?_)
   ·refine aR (aN (aY (T.aP ?_)));obtain⟨at_,hx⟩:∃x,l0[i]? =some x:=⟨_,an hV⟩;refine cD av I3 G G G (R6) cf a42 (λVG aj5 aci DK=>?_);obtain rfl:at_=aj5:=dJ (aK (aci.symm.trans (by rw[aw];exact hx)));have Fu:=Rr.2.1 at_ (ao hx);refine b4 ak G G DK cf (λ_=>?_);refine bh (v':= .int .i64 at_) G (Rg.bg G G (T.aP (Rg.bg G G (aN (T.aP (ab G G ?_))))));refine Rg.nV (A:=(RT.int .i64).sl) (hn:=by decide) gp pb rfl rfl rfl hv (by simp only[cz];omega) (λu23 R7=>?_);replace R7:(((RT.int .i64).sl).sl).V M w0 tl u23:=R7;refine bN gp G R7 G (ab G G (ad (aY ?_)));refine dz (σ:=Nat) (λs=>[(0,v),(3,.int .i64 (As tl l0 i)),(5,.int .i64 at_),(6,.bool (OG tl at_ s)),(16,v16),(17,.int .i64 l0.length),(18,.int .i64 i),(23,u23),(24,.int .i64 tl.length),(25,.int .i64 s)]) (λs w=>w0=w/\s<=tl.length) (λs=>tl.length-s) 0 (.cons G (.cons G (.cons G a88))) ?_ ?_
    ·exact⟨G,bm _⟩
    ·rintro k w2 ⟨rfl,hk⟩;refine T.aP (cy G G G (ad (aN ?_)));refine bF G (λc9=>?_) (λc9=>?_)
     ·refine aR (aN (aY (T.aP (ab G G ?_))));obtain⟨lk,mh⟩:∃x,tl[k]? =some x:=⟨_,an hV⟩;refine cD gp pb G G G (R7) cf a42 (λanV acj Xt Xu=>?_);obtain rfl:lk=acj:=dJ (aK (Xt.symm.trans (by rw[aw];exact mh)));refine bP av G G G G G Xu cf (λv8 CP=>?_);replace CP:((RT.int .i64).sl).V M w0 lk v8:=CP;have hgk:=hg lk (cn _ (ao mh));have vX:tl.getD k []=lk:=by rw[cu,mh];rfl
      refine aF G G (Rg.bg G G (T.aP (ab G G (ab G G (bB G G G hV (ab G G (bB G G G hV ?_)))))));refine aQ G G aj2 (E0 (x:=at_+1+k) CP hgk.1) (λr wc h=>?_);obtain⟨i5,rfl,rfl⟩:=h;refine ab G G (cq G G G (cq G G G (aF G G (Rg.bg G G (aL (ab G G (ab G G (bh (v':= .bool (decide (OG tl at_ k=true))) (by simp) ?_))))))));refine aO (g:=40) G (λE1=>?_) (λE1=>?_)
      ·refine ah G G (ab G G (aU G G G (Rg.bg G G (aL (bB G G G hV (ab G G (ad ?_)))))));refine⟨rfl,k+1,a94,?_,?_⟩
       ·exact⟨G,by omega⟩
       ·show _-(k+1)<_-k;omega
      ·refine aj G G G G (az G G G (Rg.bg G G (aL (bB G G G hV (ab G G (ad ?_))))));refine⟨rfl,k+1,a94,?_,?_⟩
       ·exact⟨G,by omega⟩
       ·show _-(k+1)<_-k;omega
     ·refine cQ (T.aP ?_);obtain rfl:k=tl.length:=by omega
      refine ab G G (bh (v':= .bool (decide (OG tl at_ tl.length=true))) (by simp) (ad ?_));refine bF G (λJC=>?_) (λJC=>?_)
      ·refine aL (ab G G ?_);have j2:=RX tl l0 i;refine bB G G G hV (Rg.bg G G (aL (bB G G G hV (ab G G (ad ?_)))));refine⟨rfl,i+1,ae7,?_,?_⟩
       ·exact⟨G,by omega⟩
       ·show _-(i+1)<_-i;omega
      ·refine aR (aL (bB G G G hV (ab G G (ad ?_))));refine⟨rfl,i+1,ae7,?_,?_⟩
       ·exact⟨G,by omega⟩
       ·show _-(i+1)<_-i;omega
   ·refine cQ (T.aP (ab G G (Rg.bg G G (aJ ?_))));obtain rfl:i=l0.length:=by omega
    exact ai8
end Go.K
namespace Go.K
open Go.Proofs
namespace TKMTerm
theorem nc:TI Tryz.prog 45 (.agg #[(.int .i64 0),(.int .i64 0)]) 2 16:=by unfold TI;kernel_rfl
theorem Iy:placesOf Tryz.prog 45=[(0,1),(1,1)].map some:=by kernel_rfl
theorem RS:Enters Tryz.prog 163:=enters Tryz.func163 rfl q0
theorem GY:Enters Tryz.prog 164:=enters Tryz.func164 rfl q0
theorem aj6:Enters Tryz.prog 165:=enters Tryz.func165 rfl q0
end TKMTerm
open TKMTerm
set_option maxRecDepth 10000
theorem He {M:aH} {L:List En} {t:Fd} {v0:Value} (w0:World) (hM:Lt M w0) (hs:cR RT.se M w0 v0 (GM (ju L))) (eZ:wo (-1) L=true) (hn:L.length<=100000) (h1:t.1.length<=140737488355328) (h2:t.2.length<=140737488355328):
  Spec Tryz.prog 105 #[v0,kv t] w0 (λv w=>∃M',Lt M' w/\Step M w0 M' w aE/\Own RT.fo 45 M' w w0.heap.size v (gg (EU t) 0 L)):=by
 have iF:=hM;have hF:=lY eZ;have Ko:=Ou hF hV (cZ t);have xg:(pk L (cZ t)).length<=1099511627776:=Ko.ln;have hPF:((pk L (cZ t)).map λp=>(p.1,((p.2.length:Nat):Int)))=gg (EU t) 0 L:=OP t L 0 hF;refine a8 (args:=[_,_]) (fn:=Tryz.f105) Tryz.func105 G (n:=25) Tryz.ntmps105 ?_;have S:Step M w0 M w0 aE:=aV;refine T.aP ?_;refine fD (A:=RT.fd) G G hM (Ca h1 h2) G (λu3 w1 jJ sb _=>?_);replace hs:=hs.le q0 sb.le;replace hM:=sb.lt hM;have:=S.size;replace S:=S.ax sb;refine Rg.bg G G (T.aP (Rg.bg G G (T.aP (ab G G ?_))));refine cv (A:=RT.fd) bK G mi q0 G G G jJ cf (λv21 Xv=>?_);obtain rfl:=kh Xv;refine aQ rfl rfl RS (tL (ls:=(keysOf L).map (pk L)) (t:=t) _ hM hs (oC L) rfl (by rw[bW];rfl) h1 h2) (λr22 w22 hc=>?_);obtain⟨bc,rfl,hz,xp,hC⟩:=hc;have hz0:=S.size;generalize ins M bc=Mc at xp hC;replace hC:Cu 323 (pk L (cZ t)) (-1) Mc w22 bc:=by have h:=hC;rw[show RO (GM (ju L)).2.2.1 ((keysOf L).map (pk L)) (cZ t)=(pk L (cZ t))from Ol _]at h;exact h
 replace hs:=hs.le q0 xp.le;replace jJ:=jJ.le q0 xp.le;replace hM:=xp.lt hM;have:=S.size;replace S:=S.ax xp;refine Rg.bg G G (aN (T.aP (ab G G ?_)));obtain⟨_,_,_,_,_,Bs,_⟩:=id hC;refine aQ G G GY (nN hC hM Ko.may Ko.ps Ko.by_ Ko.ln) (λr31 w31 hc=>?_);obtain⟨rfl,s31,hC⟩:=hc;have Jr:lZ (pk L (cZ t)) (-1)=((0:Nat):Int):=by unfold lZ;rw[if_pos hV];omega
 rw[Jr]at hC ⊢;replace S:=S.ch s31 (λb (hb:b=bc)=>by omega);replace hM:=s31.lt hM;refine Rg.bg G G (aY ?_);refine dz (σ:=Nat×Value) (λq=>[(5,q.2),(6,.pointer (some ⟨bc,0,none⟩)),(7,.int .i64 (eI (pk L (cZ t)) (q.1:Int)))]) (λq w=>q.1<=(pk L (cZ t)).length/\∃M2,Lt M2 w/\Step M w0 M2 w aE/\Cu 323 (pk L (cZ t)) (q.1:Int) M2 w bc/\Own RT.fo 45 M2 w w0.heap.size q.2 (((pk L (cZ t)).map λp=>(p.1,((p.2.length:Nat):Int))).take q.1)) (λq=>(pk L (cZ t)).length-q.1) (0,.slice none 0 0) a09 ?_ ?_
 ·exact⟨bm _,_,hM,S,hC,eG _ _ _ _ _⟩
 ·clear hM S hC;rintro⟨i,vo⟩ w ⟨hi,M2,hM,S,hC,jQ⟩;dsimp only at hi hC jQ ⊢;refine aN (T.aP (ab G G (cy G G G (ad ?_))));refine bF G (λc4=>?_) (λc4=>?_)
  ·have qE:i<(pk L (cZ t)).length:=Nat.lt_of_not_le λh=>by rw[qm hV]at c4;exact absurd c4 q0
   refine aR (aN (aY (aL ?_)));obtain⟨⟨pd,ps⟩,hgp⟩:∃x,(pk L (cZ t))[i]? =some x:=⟨_,an hV⟩;have hdg:=jh hgp;have hdr:=kY Ko.may hgp;have hpg:fV (pk L (cZ t)) (i:Int)=ps:=by unfold fV;rw[if_neg hV,aw,hgp]
   have aj7:=Ko.ps _ (ao hgp);dsimp only at aj7;refine ab G G (ab G G (ab G G ?_));refine aQ G G aj6 (EA hC Ko.may) (λr63 w63 hc=>?_);obtain⟨rfl,rfl⟩:=hc;rw[hpg,hdg];obtain⟨_,_,_,_,_,as3,_⟩:=id hC;refine dg (places:=[(0,1),(1,1)]) dB nc Iy rfl ⟨_,_,rfl,rfl,_,_,rfl,rfl,rfl⟩ (out:=[_,_]) ⟨0,[_],rfl,rfl,by simp[Value.cells],1,[_],rfl,rfl,by simp[Value.cells],rfl⟩ ?_;refine fp (A:=RT.fo) (hn:=by decide) (M:=M2) aS nc q0 G G hM (FK hV hV) (.inl G) (λas4 aaa O9 rY=>?_);replace jQ:=jQ.bM rY;replace hC:=hC.step rY (λh=>h);replace hM:=rY.lt hM;have:=S.size;replace S:=S.ax rY;refine dH (M:=M2) (base:=w0.heap.size) aS nc rfl rfl rfl rfl jQ O9 cf (by rw[a7,bW,eJ];omega) (by rw[a7,bW,eJ];omega) (S.size) (λaj8 as5 as6 acm R8=>?_);replace O9:=O9.le R8.le;replace hC:=hC.step R8 (λh=>by obtain⟨_,_,_,_,_,Bs,_⟩:=id hC;exact jQ.fx Bs q0 h);replace hM:=R8.lt hM;have:=S.size;replace S:=S.dR R8 jQ (br _);replace jQ:=acm;refine Rg.bg G G (aL (ab G G ?_));obtain⟨_,_,_,_,_,Bs,_⟩:=id hC;refine aQ G G GY (nN hC hM Ko.may Ko.ps Ko.by_ Ko.ln) (λr51 w51 hc=>?_);obtain⟨rfl,s51,hC⟩:=hc;have Jr:lZ (pk L (cZ t)) (i:Int)=((i+1:Nat):Int):=by unfold lZ;rw[if_pos hV];omega
   rw[Jr]at hC ⊢;replace jQ:=jQ.step s51 (λc hc (h:c=bc)=>jQ.fx Bs q0 (h▸hc));replace S:=S.ch s51 (λb (hb:b=bc)=>by omega);replace hM:=s51.lt hM;refine Rg.bg G G ?_;refine⟨G,(i+1,aj8),a09,?_,?_⟩
   ·exact⟨by omega,_,hM,S,hC,by rw[bX,eN,hgp];exact jQ⟩
   ·dsimp only;omega
  ·have qE:(pk L (cZ t)).length<=i:=Nat.le_of_not_lt λh=>by have:=(Da (l:=(pk L (cZ t))) Ko.may (i:=(i:Int))).2 ⟨by omega,by omega⟩;omega
   refine cQ (T.aP (ab G G (Rg.bg G G (aJ (aM G G ⟨_,hM,S,?_⟩)))));rw[bD (by rw[bW];omega),hPF]at jQ;exact jQ
end Go.K
namespace Go.K
open Go.Proofs
namespace TKMPhr
theorem nc:TI Tryz.prog 45 (.agg #[(.int .i64 0),(.int .i64 0)]) 2 16:=by unfold TI;kernel_rfl
theorem E2:TI Tryz.prog 272 (.pointer none) 1 8:=by unfold TI;kernel_rfl
theorem Iy:placesOf Tryz.prog 45=[(0,1),(1,1)].map some:=by kernel_rfl
theorem E54:Enters Tryz.prog 54:=enters Tryz.func54 rfl q0
theorem RS:Enters Tryz.prog 163:=enters Tryz.func163 rfl q0
theorem GY:Enters Tryz.prog 164:=enters Tryz.func164 rfl q0
theorem RP:Enters Tryz.prog 166:=enters Tryz.func166 rfl q0
theorem akb:Enters Tryz.prog 167:=enters Tryz.func167 rfl q0
end TKMPhr
open TKMPhr
set_option maxRecDepth 10000
def qM (k:List UInt8) (xs:List (List UInt8)) (e:En):Option Int:=wV (vv (dX e.1.2 k) xs)
theorem R9 {ws xs:List (List UInt8)} (h:0<vv ws xs) {x:List UInt8} (hx:x∈xs):0<(jc ws x).length:=by
 unfold vv at h
 split at h
 ·omega
 ·unfold OM at h;obtain⟨i,hi⟩:=List.length_pos_iff_exists_mem.1 h;have h2:=of_decide_eq_true (jG.1 hi).2;rw[<-h2]at hx;exact Bi.2 (List.mem_of_mem_drop (List.mem_of_mem_take hx))
theorem tS {L:List En} (hF:∀e∈L,iC e.1) {k:List UInt8} {xs:List (List UInt8)} {i:Nat} {e:En} (h:L[i]? =some e) (hp:qM k xs e≠none) {x:List UInt8} (hx:x∈xs):((i:Int),jc (dX e.1.2 k) x)∈pk L (cZ (k,x)):=by
 have h0:0<vv (dX e.1.2 k) xs:=by
  unfold qM wV at hp
  split at hp
  ·assumption
  ·exact absurd G hp
 exact(OQ hF).2 ⟨i,e,h,G,R9 h0 hx⟩
theorem Hf {P:List Po} (hm:ez (-1) P=true) {p:Po} (hp:p∈P) {d:Int} (hd:d<=p.1):eI P (idx P d:Nat)<=p.1:=by
 obtain⟨t,ht⟩:=bO.1 hp;have h1:=BN ht hd;have sN:=(al.1 ht).1;obtain⟨q,hq⟩:∃q,P[idx P d]? =some q:=⟨_,an hV⟩;rw[jh (d:=q.1) (ps:=q.2) hq];rcases cK (idx P d) t with h|h
 ·have:=mD hm hq ht h;omega
 ·have e:idx P d=t:=by omega
  rw[e,ht]at hq;cases hq;exact qi _
theorem Pb {P:List Po} (hm:ez (-1) P=true) {p:Po} (hp:p∈P) {i:Nat} {d:Int} {ps:List Int} (hi:P[i]? =some (d,ps)) (hd:d<p.1):eI P ((i+1:Nat):Int)<=p.1:=by
 obtain⟨t,ht⟩:=bO.1 hp;have sN:=(al.1 ht).1
 have hit:i<t:=by
  rcases fk t i with h|h|h
  ·have:=mD hm ht hi h;simp only at this;omega
  ·subst h;rw[hi]at ht;cases ht;simp only at hd;omega
  ·exact h
 obtain⟨q,hq⟩:∃q,P[i+1]? =some q:=⟨_,an hV⟩;rw[jh (d:=q.1) (ps:=q.2) hq];rcases cK (i+1) t with h|h
 ·have:=mD hm hq ht h;omega
 ·have e:i+1=t:=by omega
  rw[e,ht]at hq;cases hq;exact qi _
theorem Iz {f:En->Option Int} {L:List En} {m:Nat}:∀n,(∀i e,m<=i->i<m+n->L[i]? =some e->f e=none)->gg f 0 (L.take (m+n))=gg f 0 (L.take m)
 |0,_=>rfl
 |n+1,h=>by
  rw[<-Iz n λi e h1 h2=>h i e h1 hV,<-Nat.add_assoc]
  cases hL:L[m+n]? with
  |some e=>rw[l1 hL];unfold qg;rw[h _ e hV hV hL,fz]
  |none=>rw[bX,hL];simp
theorem tT {f:En->Option Int} {L:List En} {m n:Nat} (hmn:m<=n) (h:∀i e,m<=i->i<n->L[i]? =some e->f e=none):gg f 0 (L.take n)=gg f 0 (L.take m):=by
 obtain⟨c,rfl⟩:∃c,n=m+c:=⟨n-m,by omega⟩;exact Iz c h
theorem Bt {m:List Po} {j x:Int} (hj: -1<=j/\j<=m.length) (hx:0<=x) (eK:∀(t:Nat) p,(t:Int)<j->m[t]? =some p->p.1<x):rL m j x=idx m x:=by
 unfold rL
 split
 ·rename_i h
  rcases eQ m j with⟨h0,h1,_⟩|⟨t,d,ps,rfl,ht,h1,_⟩|⟨h0,h1,_⟩
  ·omega
  ·rw[idx_eq (i:=t) (λa ha p hp=>eK a p hV hp) (λp hp=>by rw[ht]at hp;cases hp;simp only;omega) hV]
  ·rw[idx_eq (i:=m.length) (λa ha p hp=>eK a p hV hp) (λp hp=>by simp at hp) (br _)];omega
 ·rfl
theorem zu {m:List Po} {x:Int} (hx:x<=2147483648):x<=eI m (idx m x:Nat):=by
 rcases eQ m (idx m x:Nat)with⟨h0,h1,_⟩|⟨t,d,ps,he,ht,h1,_⟩|⟨h0,h1,_⟩
 ·omega
 ·obtain rfl:idx m x=t:=by omega
  have:=xZ ht;simp only at this;omega
 ·omega
theorem nQ {P:List Po} (hm:ez (-1) P=true) {i:Int} (hi:0<=i):∃D:Nat,eI P i=(D:Int)/\D<=2147483648:=by
 have h:=uD hm i
 have h0:0<=eI P i:=by
  rcases eQ P i with⟨h1,_⟩|⟨j,d,ps,rfl,hx,h2,_⟩|⟨_,h2,_⟩
  ·omega
  ·have:=kY hm hx;omega
  ·omega
 exact⟨(eI P i).toNat,by omega,by omega⟩
theorem T1 {L:List En} (hF:∀e∈L,iC e.1) {t:Fd} {i:Int} {D:Nat} (h:eI (pk L (cZ t)) i=(D:Int)) (hD:D<2147483648):∃e,L[D]? =some e/\fV (pk L (cZ t)) i=jc (dX e.1.2 t.1) t.2/\∃j:Nat,∃ps,i=j/\(pk L (cZ t))[j]? =some ((D:Int),ps):=by
 rcases eQ (pk L (cZ t)) i with⟨_,h1,_⟩|⟨j,d,ps,rfl,hx,h2,h3⟩|⟨_,h1,_⟩
 ·omega
 ·obtain⟨d',e,h4,h5,_⟩:=(OQ hF).1 (ao hx)
  cases h5;have:d'=D:=by omega
  subst this;exact⟨e,h4,h3,j,_,G,hx⟩
 ·omega
theorem Hg {ws:List (List UInt8)} (h:ws.length<=500) (x:List UInt8):TU (jc ws x):=by
 have hl:=EJ ws x;refine⟨?_,?_,by omega⟩
 ·rw[oN];exact dV.2 ((List.pairwise_lt_range.sublist List.filter_sublist).imp λh=>by omega)
 ·rw[oN];intro y hy;obtain⟨i,hi,rfl⟩:=cx.1 hy;have:=List.mem_range.1 (jG.1 hi).1;omega
theorem Pc {P:List Po} (hm:ez (-1) P=true):idx P 0=0:=idx_eq (λj h=>absurd h (fB _)) (λp hp=>(kY hm (d:=p.1) (ps:=p.2) hp).1) (bm _)
theorem zw {P:List Po} (hm:ez (-1) P=true) {i:Nat} {d:Int} {ps:List Int} (hi:P[i]? =some (d,ps)):d<eI P ((i+1:Nat):Int):=by
 have hd:=kY hm hi;rcases eQ P ((i+1:Nat):Int)with⟨h0,_⟩|⟨j,d',ps',he,hx,h1,_⟩|⟨_,h1,_⟩
 ·omega
 ·have:=mD hm hi hx hV;simp only at this;omega
 ·omega
theorem nR {f:En->Option Int} {e:En} {s:Int} (h:f e=some s) (i:Nat):qg f i e=[((i:Int),s)]:=by unfold qg;rw[h]
theorem vE {f:En->Option Int} {e:En} (h:f e=none) (i:Nat):qg f i e=[]:=by unfold qg;rw[h]
def su (L:List En) (k:List UInt8) (xs:List (List UInt8)) (bs:List Nat) (pos:Nat->Int) (M:aH) (w:World):Prop:=∀(j:Nat) b x,bs[j]? =some b->xs[j]? =some x->Cu 323 (pk L (cZ (k,x))) (pos j) M w b
theorem su.step {L:List En} {k:List UInt8} {xs:List (List UInt8)} {bs:List Nat} {pos:Nat->Int} {M M' N:aH} {w w':World} (h:su L k xs bs pos M w) (s:Step M w M' w' N) (hn:∀b∈bs,¬N b):su L k xs bs pos M' w':=λj b x hb hx=>(h j b x hb hx).step s (hn b (ao hb))
theorem su.Pd {L:List En} {k:List UInt8} {xs:List (List UInt8)} {bs:List Nat} {pos:Nat->Int} {M M':aH} {w w':World} (h:su L k xs bs pos M w) (mu:bs.Nodup) {j b:Nat} {x:List UInt8} {i:Int} (hb:bs[j]? =some b) (hx:xs[j]? =some x) (s:Step M w M' w' (λc=>c=b)) (hc:Cu 323 (pk L (cZ (k,x))) i M' w' b):su L k xs bs (λj'=>if j'=j then i else pos j') M' w':=by
 intro j' b' x' CF Pe;by_cases e:j'=j
 ·subst e;rw[hb]at CF;rw[hx]at Pe
  cases CF;cases Pe;dsimp only;rw[if_pos rfl];exact hc
 ·dsimp only;rw[if_neg e];refine (h j' b' x' CF Pe).step s λLP=>e ?_
  obtain⟨h1,h2⟩:=al.1 hb;obtain⟨h3,h4⟩:=al.1 CF;rcases fk j' j with h|h|h
  ·exact absurd (h4.trans (LP.trans h2.symm)) (List.pairwise_iff_getElem.1 mu _ _ h3 h1 h)
  ·exact h
  ·exact absurd (h2.trans (LP.symm.trans h4.symm)) (List.pairwise_iff_getElem.1 mu _ _ h1 h3 h)
theorem su.cell {L:List En} {k:List UInt8} {xs:List (List UInt8)} {bs:List Nat} {pos:Nat->Int} {M:aH} {w:World} (h:su L k xs bs pos M w) (hl:bs.length<=xs.length) {b:Nat} (hb:b∈bs):∃cs,w.heap[b]? =some (.cells cs 323 (0,0)):=by
 obtain⟨j,hj⟩:=bO.1 hb;have o7:=(al.1 hj).1;obtain⟨_,_,_,_,_,hc,_⟩:=h j b _ hj (an hV);exact⟨_,hc⟩
theorem su.snoc {L:List En} {k:List UInt8} {xs:List (List UInt8)} {bs:List Nat} {M:aH} {w:World} (h:su L k xs bs (λ_=> -1) M w) {b:Nat} {x:List UInt8} (hx:xs[bs.length]? =some x) (hc:Cu 323 (pk L (cZ (k,x))) (-1) M w b):su L k xs (bs++[b]) (λ_=> -1) M w:=by
 intro j b' x' CF Pe;rcases fk j bs.length with h1|h1|h1
 ·rw[List.getElem?_append_left h1]at CF;exact h j b' x' CF Pe
 ·subst h1;rw[jq (br _)]at CF;rw[hx]at Pe;simp at CF;subst CF;cases Pe;exact hc
 ·rw[dE a08]at CF;cases CF
def vF (L:List En) (k:List UInt8) (xs:List (List UInt8)) (pos:Nat->Int) (d:Nat):Prop:=∀(j:Nat) x,xs[j]? =some x->∀(t:Nat) p,(t:Int)<pos j->(pk L (cZ (k,x)))[t]? =some p->p.1<(d:Int)
theorem vF.Pd {L:List En} {k:List UInt8} {xs:List (List UInt8)} {pos:Nat->Int} {d d':Nat} (h:vF L k xs pos d) (hd:d<=d') {j:Nat} {i:Int} (hi:∀x,xs[j]? =some x->∀(t:Nat) p,(t:Int)<i->(pk L (cZ (k,x)))[t]? =some p->p.1<(d':Int)):vF L k xs (λj'=>if j'=j then i else pos j') d':=by
 intro j' x hx t p ht hp;dsimp only at ht;by_cases e:j'=j
 ·subst e;rw[if_pos rfl]at ht;exact hi x hx t p ht hp
 ·rw[if_neg e]at ht;have:=h j' x hx t p ht hp;omega
set_option maxHeartbeats 4000000 in
theorem CA {M:aH} {L:List En} {k:List UInt8} {xs:List (List UInt8)} {v0 vx:Value} (w0:World) (hM:Lt M w0) (hs:cR RT.se M w0 v0 (GM (ju L))) (eZ:wo (-1) L=true) (hn:L.length<=100000) (hx:(RT.str.sl).V M w0 xs vx) (hk:k.length<=140737488355328) (hxs:∀x∈xs,x.length<=140737488355328) (fq:xs≠[]) (hx6:xs.length<=1000):
  Spec Tryz.prog 106 #[v0,sv k,vx] w0 (λv w=>∃M',Lt M' w/\Step M w0 M' w aE/\Own RT.fo 45 M' w w0.heap.size v (gg (qM k xs) 0 L)):=by
 have iF:=hM;have hF:=lY eZ;have hOK:∀x∈xs,OkC (pk L (cZ (k,x))):=λx _=>Ou hF hV _
 obtain⟨x0,uv⟩:∃x,xs[0]? =some x:=⟨_,an (eh.2 fq)⟩;have Xw:x0∈xs:=ao uv;have uh:=hOK x0 Xw;have hlp:=eh.2 fq;refine a8 (args:=[_,_,_]) (fn:=Tryz.f106) Tryz.func106 G (n:=88) Tryz.ntmps106 ?_;have S:Step M w0 M w0 aE:=aV;refine T.aP (Rg.bg G G (T.aP (Rg.bg G G (aN (T.aP (ab G G ?_))))));have xf:=dQ hx;refine bN aD G hx G (ab G G (ad (aY ?_)));refine dz (σ:=Nat×Value×List Nat) (λq=>[(0,v0),(1,sv k),(7,q.2.1),(19,vx),(20,.int .i64 (xs.length:Int)),(21,.int .i64 (q.1:Int))]) (λq w=>q.1<=xs.length/\q.2.2.length=q.1/\q.2.2.Nodup/\(∀b∈q.2.2,w0.heap.size<=b)/\∃M2,Lt M2 w/\Step M w0 M2 w aE/\cR RT.se M2 w v0 (GM (ju L))/\(RT.str.sl).V M2 w xs vx/\su L k xs q.2.2 (λ_=> -1) M2 w/\Own RT.CM 272 M2 w w0.heap.size q.2.1 q.2.2) (λq=>xs.length-q.1) (0,.slice none 0 0,[]) a11 ?_ ?_
 ·exact⟨bm _,rfl,List.nodup_nil,λb h=>by(cases h),_,hM,S,hs,hx,λj b x h=>by(simp at h),eG _ _ _ _ _⟩
 ·clear hM S hs hx;rintro⟨i,vb,bs⟩ w ⟨hi,sy,mu,Xx,M2,hM,S,hs,hx,jO,gI⟩;dsimp only at hi sy mu Xx jO gI ⊢;refine T.aP (cy G G G (ad (aN ?_)));refine bF G (λc3=>?_) (λc3=>?_)
  ·refine aR (aN (aY (T.aP ?_)));obtain⟨x,Sz⟩:∃x,xs[i]? =some x:=⟨_,an hV⟩;refine cD aD I9 G G G hx cf hV (λu40 x_ iU akc=>?_);rw[aw]at iU;obtain rfl:=aK (Sz.symm.trans iU);refine bP aA G G G G G akc cf (λv41 akd=>?_);obtain rfl:=ep akd;refine Rg.bg rfl rfl (aL (ab rfl rfl (ab rfl rfl (ab rfl rfl (ab rfl rfl (dg (places:=[(0,1),(1,1)]) bK mi UX rfl ⟨_,_,rfl,rfl,_,_,rfl,rfl,rfl⟩ (out:=[_,_]) ⟨0,[_],rfl,rfl,by simp[Value.cells],1,[_],rfl,rfl,by simp[Value.cells],rfl⟩ ?_))))));refine aQ rfl rfl RS (tL (ls:=(keysOf L).map (pk L)) (t:=(k,x)) _ hM hs (oC L) rfl (by rw[bW];rfl) hk (hxs x (ao Sz))) (λr55 w55 hc=>?_);obtain⟨bc,rfl,hz,Xy,hC⟩:=hc;have hz0:=S.size;have Ru:∀b∈bs,b<bc:=λb hb=>by obtain⟨_,h⟩:=jO.cell hV hb;have:=ae h;omega
   generalize ins M2 bc=Mc at Xy hC;replace hC:Cu 323 (pk L (cZ (k,x))) (-1) Mc w55 bc:=by have h:=hC;rw[show RO (GM (ju L)).2.2.1 ((keysOf L).map (pk L)) (cZ (k,x))=(pk L (cZ (k,x)))from Ol _]at h;exact h
   replace hs:=hs.le q0 Xy.le;replace hx:=hx.le Xy.le;replace gI:=gI.bM Xy;replace jO:=jO.step Xy (λb hb h=>h);replace hM:=Xy.lt hM;have:=S.size;replace S:=S.ax Xy;refine fp (A:=RT.CM) (hn:=by decide) (M:=Mc) iq E2 q0 G G hM (nw.2 G) (.inr ⟨G,G⟩) (λas9 ata Pf Hh=>?_);replace hs:=hs.le q0 Hh.le;replace hx:=hx.le Hh.le;replace gI:=gI.bM Hh;replace jO:=jO.step Hh (λb hb h=>h);replace hC:=hC.step Hh (λh=>h);replace hM:=Hh.lt hM;have:=S.size;replace S:=S.ax Hh;refine dH (M:=Mc) (base:=w0.heap.size) iq E2 rfl rfl rfl rfl gI Pf cf (by rw[eJ];omega) (by rw[eJ];omega) (S.size) (λaaO atb ahH acn tC=>?_);replace hs:=hs.le q0 tC.le;replace hx:=hx.le tC.le;replace Pf:=Pf.le tC.le;replace jO:=jO.step tC (λb hb h=>by obtain⟨_,j2⟩:=jO.cell hV hb;first|exact gI.fx j2 q0 h|exact jQ.fx j2 q0 h|exact Fv.fx j2 q0 h);replace hC:=hC.step tC (λh=>by obtain⟨_,_,_,_,_,Bs,_⟩:=id hC;exact gI.fx Bs q0 h);replace hM:=tC.lt hM;have:=S.size;replace S:=S.dR tC gI (br _);replace gI:=acn;refine Rg.bg G G (aL (bB G G G hV (ab G G (ad ?_))));refine⟨G,(i+1,aaO,bs++[bc]),a11,?_,?_⟩
   ·exact⟨by omega,by rw[bG,eJ];omega,List.nodup_append.2 ⟨mu,by simp,λa ha b hb=>by simp at hb;subst hb;have:=Ru a ha;omega⟩,λb hb=>by rcases dw.1 hb with h|h;exact Xx b h;simp at h;subst h;omega,_,hM,S,hs,hx,jO.snoc (by rw[sy];exact Sz) hC,gI⟩
   ·dsimp only;omega
  ·refine cQ (T.aP ?_);have U5:bs.length=xs.length:=by omega
   obtain⟨b0,yi⟩:∃b,bs[0]? =some b:=⟨_,an hV⟩;refine Rg.bg G G (aN (T.aP (ab G G ?_)));have aco:=gI.close (hn:=by decide) iF S hV;refine cD (A:=RT.CM) (hn:=by decide) iq E2 G G G aco cf hV (λu81 x_ iU Xz=>?_);obtain rfl:=aK ((show bs[0]? =some b0 from yi).symm.trans iU);refine bP Tryz.underlying272 G G G G G Xz cf (λv81 ake=>?_);obtain rfl:=nw.1 ake;obtain⟨_,_,_,_,_,Bs,_⟩:=id (jO 0 _ _ yi uv);refine aQ G G GY (nN (jO 0 _ _ yi uv) hM uh.may uh.ps uh.by_ uh.ln) (λr83 w83 hc=>?_);obtain⟨rfl,s83,hC⟩:=hc;have Jr:lZ (pk L (cZ (k,x0))) (-1)=0:=by unfold lZ;rw[if_pos hV];omega
   rw[Jr]at hC ⊢;obtain⟨D,hD,IS⟩:=nQ uh.may (i:=0) (qi _);rw[hD];replace jO:=jO.Pd mu yi uv s83 hC;replace gI:=gI.step s83 (λc hc (h:c=b0)=>gI.fx Bs q0 (h▸hc));replace S:=S.ch s83 (λc (h:c=b0)=>by have:=Xx b0 (ao yi);omega);replace hM:=s83.lt hM;refine Rg.bg G G (aY ?_);refine dz (σ:=Nat×Value) (λq=>[(7,vb),(10,q.2),(11,.int .i64 (q.1:Int))]) (λq w=>q.1<=2147483648/\∃M2 pos,Lt M2 w/\Step M w0 M2 w aE/\su L k xs bs pos M2 w/\vF L k xs pos q.1/\eI (pk L (cZ (k,x0))) (pos 0)=(q.1:Int)/\Own RT.CM 272 M2 w w0.heap.size vb bs/\Own RT.fo 45 M2 w w0.heap.size q.2 (gg (qM k xs) 0 (L.take q.1))) (λq=>2147483648-q.1) (D,.slice none 0 0) a09 ?_ ?_
   ·refine ⟨IS,_,_,hM,S,jO,(show vF L k xs (λ_=> -1) 0 from λj x hx t p h=>by dsimp only at h;omega).Pd (bm _) (λx hx t p h=>by omega),by dsimp only;rw[if_pos rfl];exact hD,gI,?_⟩;rw[show gg (qM k xs) 0 (L.take D)=[]from tT (m:=0) (bm _) λi e _ h2 h3=>gU λhp=>by have:=Hf uh.may (tS hF h3 hp Xw) (d:=0) ai4;rw[Pc uh.may,show eI (pk L (cZ (k,x0))) ((0:Nat):Int)=(D:Int)from hD]at this;simp only at this;omega];exact eG _ _ _ _ _
   ·clear hM S jO gI hD hC;rintro⟨D,vo⟩ w ⟨IS,M2,pos,hM,S,jO,P5,hD,gI,jQ⟩;dsimp only at IS P5 hD jQ ⊢;refine aN (T.aP (ab G G (cy G G G (ad ?_))));refine bF G (λc9=>?_) (λc9=>?_)
    ·have atd:D<2147483648:=by omega
     refine aR (aY (T.aP (ab G G (Rg.bg G G (aN (T.aP (ab G G ?_)))))));have XA:=gI.close (hn:=by decide) iF S hV;refine bN (A:=RT.CM) (hn:=by decide) iq G XA G (ab G G (ad (aY ?_)));refine dz (σ:=Nat×Nat) (λq=>[(7,vb),(10,vo),(11,.int .i64 (D:Int)),(12,.int .i64 (q.2:Int)),(41,vb),(42,.int .i64 (bs.length:Int)),(43,.int .i64 (q.1:Int))]) (λq w=>q.1<=bs.length/\D<=q.2/\q.2<=2147483648/\∃M2 pos,Lt M2 w/\Step M w0 M2 w aE/\su L k xs bs pos M2 w/\vF L k xs pos D/\(∀(j:Nat) x,j<q.1->xs[j]? =some x->pos j=((idx (pk L (cZ (k,x))) D:Nat):Int)/\eI (pk L (cZ (k,x))) ((idx (pk L (cZ (k,x))) D:Nat):Int)<=(q.2:Int))/\(q.2=D\/∃x∈xs,(q.2:Int)=eI (pk L (cZ (k,x))) ((idx (pk L (cZ (k,x))) D:Nat):Int))/\Own RT.CM 272 M2 w w0.heap.size vb bs/\Own RT.fo 45 M2 w w0.heap.size vo (gg (qM k xs) 0 (L.take D))) (λq=>bs.length-q.1) (0,D) a88 ?_ ?_
     ·exact⟨bm _,br _,IS,_,_,hM,S,jO,P5,λj x h=>by(exact absurd h (fB _)),.inl G,gI,jQ⟩
     ·clear hM S jO P5 gI jQ;rintro⟨j,at_⟩ w ⟨hj,hDa,hal,M2,pos,hM,S,jO,P5,Fu,Yq,gI,jQ⟩;dsimp only at hj hDa hal Fu Yq ⊢;refine T.aP (cy G G G (ad (aN ?_)));refine bF G (λDu=>?_) (λDu=>?_)
      ·refine aR (aN (aY (T.aP ?_)));obtain⟨bj,G1⟩:∃x,bs[j]? =some x:=⟨_,an hV⟩;obtain⟨x,EB⟩:∃x,xs[j]? =some x:=⟨_,an hV⟩;have T2:=hOK x (ao EB);have acp:=gI.close (hn:=by decide) iF S hV;refine cD (A:=RT.CM) (hn:=by decide) iq E2 G G G acp cf hV (λu13 x_ iU Xl=>?_);rw[aw]at iU;obtain rfl:=aK ((show bs[j]? =some bj from G1).symm.trans iU);refine bP Tryz.underlying272 G G G G G Xl cf (λWk EW=>?_);obtain rfl:=nw.1 EW;refine Rg.bg G G (aL (ab G G (ab G G (ab G G ?_))));obtain⟨_,_,_,_,_,Bs,_⟩:=id (jO j _ _ G1 EB);refine aQ G G RP (oJ (jO j _ _ G1 EB) hM T2.may T2.ps T2.by_ T2.ln hV) (λakf akg hc=>?_);obtain⟨rfl,Pg,hC⟩:=hc;have hjr:=(jO j _ _ G1 EB).rng;rw[Bt hjr hV (P5 j x EB)]at hC ⊢;obtain⟨A,hA,hAl⟩:=nQ T2.may (i:=((idx (pk L (cZ (k,x))) D:Nat):Int)) hV;rw[hA];replace jO:=jO.Pd mu G1 EB Pg hC;replace gI:=gI.step Pg (λc hc (h:c=bj)=>gI.fx Bs q0 (h▸hc));replace jQ:=jQ.step Pg (λc hc (h:c=bj)=>jQ.fx Bs q0 (h▸hc));replace S:=S.ch Pg (λc (h:c=bj)=>by have:=Xx bj (ao G1);omega);replace hM:=Pg.lt hM;refine Rg.max2 G G G (bh (v':= .int .i64 ((max at_ A:Nat):Int)) (by congr 1;omega) (Rg.bg rfl rfl (aL (bB rfl rfl rfl hV (ab rfl rfl (ad ?_))))));refine⟨G,(j+1,max at_ A),a88,?_,?_⟩
       ·refine⟨by omega,by omega,by omega,_,_,hM,S,jO,P5.Pd (br _) (λy hy t p h1 h2=>by rw[EB]at hy;cases hy;exact xY (Int.ofNat_lt.1 h1) h2),λj' y hj' hy=>?_,?_,gI,jQ⟩
        ·dsimp only at hj' ⊢;by_cases e:j'=j
         ·subst e;rw[EB]at hy;cases hy;rw[if_pos rfl];exact⟨G,by omega⟩
         ·rw[if_neg e];obtain⟨h1,h2⟩:=Fu j' y hV hy;exact⟨h1,by omega⟩
        ·dsimp only;rcases Nat.le_total A at_ with h|h
         ·rw[Nat.max_eq_left h];exact Yq
         ·rw[Nat.max_eq_right h];exact .inr ⟨x,ao EB,hA.symm⟩
       ·dsimp only;omega
      ·refine cQ (aN (T.aP (ab G G (ab G G (fU G G G (ad ?_))))));refine bF G (λFt=>?_) (λFt=>?_)
       ·have hgA:∀D2:Nat,eI (pk L (cZ (k,x0))) ((idx (pk L (cZ (k,x0))) at_:Nat):Int)=(D2:Int)->∀(i:Nat) e,D<=i->i<D2->L[i]? =some e->qM k xs e=none:=λD2 Kp i e h1 h2 h3=>by
         rcases Yq with h|⟨y,hy,h⟩
         ·omega
         ·refine gU λhp=> ?_
          have q1:=Hf (hOK y hy).may (tS hF h3 hp hy) (d:=(D:Int)) ai4;have q2:=Hf uh.may (tS hF h3 hp Xw) (d:=(at_:Int)) (by simp only at q1 ⊢;omega);simp only at q1 q2;omega
        refine T.aP (ab G G ?_);have XB:=gI.close (hn:=by decide) iF S hV;refine cD (A:=RT.CM) (hn:=by decide) iq E2 G G G XB cf hV (λatg x_ iU acq=>?_);obtain rfl:=aK ((show bs[0]? =some b0 from yi).symm.trans iU);refine bP Tryz.underlying272 G G G G G acq cf (λv171 acr=>?_);obtain rfl:=nw.1 acr;refine ab G G ?_;obtain⟨_,_,_,_,_,Bs,_⟩:=id (jO 0 _ _ yi uv);refine aQ G G RP (oJ (jO 0 _ _ yi uv) hM uh.may uh.ps uh.by_ uh.ln (to:=(at_:Int)) hV) (λath ati hc=>?_);obtain⟨rfl,Ph,hC⟩:=hc;have hjr:=(jO 0 _ _ yi uv).rng;rw[Bt hjr hV (λt p h1 h2=>by have:=P5 0 x0 uv t p h1 h2;omega)]at hC ⊢;obtain⟨D2,Kp,Pj⟩:=nQ uh.may (i:=((idx (pk L (cZ (k,x0))) at_:Nat):Int)) hV;rw[Kp];have BB:=zu (m:=(pk L (cZ (k,x0)))) (x:=(at_:Int)) hV;replace jO:=jO.Pd mu yi uv Ph hC;replace gI:=gI.step Ph (λc hc (h:c=b0)=>gI.fx Bs q0 (h▸hc));replace jQ:=jQ.step Ph (λc hc (h:c=b0)=>jQ.fx Bs q0 (h▸hc));replace S:=S.ch Ph (λc (h:c=b0)=>by have:=Xx b0 (ao yi);omega);replace hM:=Ph.lt hM;refine Rg.bg G G (cQ ?_);refine⟨G,(D2,vo),a09,?_,?_⟩
        ·exact⟨Pj,_,_,hM,S,jO,P5.Pd hV (λx hx t p h1 h2=>by rw[uv]at hx;cases hx;have:=xY (Int.ofNat_lt.1 h1) h2;omega),by dsimp only;rw[if_pos rfl];exact Kp,gI,by rw[tT (m:=D) hV (hgA D2 Kp)];exact jQ⟩
        ·dsimp only;omega
       ·have haD:at_=D:=by omega
        have acs:∀(j':Nat) y,xs[j']? =some y->pos j'=((idx (pk L (cZ (k,y))) D:Nat):Int)/\eI (pk L (cZ (k,y))) (pos j')=(D:Int):=λj' y hy=>by
         obtain⟨h1,h2⟩:=Fu j' y (by have:=(al.1 hy).1;omega) hy;have h3:=zu (m:=(pk L (cZ (k,y)))) (x:=(D:Int)) hV;exact⟨h1,by rw[h1];omega⟩
        obtain⟨e,hLe,_,t0,ps0,ht0,E3⟩:=T1 hF (acs 0 x0 uv).2 hV
        have xg:∀y j',xs[j']? =some y->fV (pk L (cZ (k,y))) (pos j')=jc (dX e.1.2 k) y:=λy j' hy=>by
         obtain⟨e',h1,h2,_⟩:=T1 hF (acs j' y hy).2 hV;rw[hLe]at h1;cases h1;exact h2
        have hwf:(dX e.1.2 k).length<=500:=wx (hF e (ao hLe)) k;have RL:=It (dX e.1.2 k) xs
        have hsd:Ip (xs.map (jc (dX e.1.2 k)))=vv (dX e.1.2 k) xs:=by
         cases YR:xs with
         |nil=>exact absurd YR fq
         |cons a tl=>exact OO _ a tl
        have sN:=(al.1 E3).1
        have hgB:∀D2:Nat,eI (pk L (cZ (k,x0))) ((t0+1:Nat):Int)=(D2:Int)->∀(i:Nat) e',D+1<=i->i<D2->L[i]? =some e'→qM k xs e'=none:=λD2 Kp i e' h1 h2 h3=>by
         refine gU λhp=> ?_
         have q2:=Pb uh.may (tS hF h3 hp Xw) E3 ai4;simp only at q2;omega
        clear Fu Yq;refine aR (T.aP (Rg.bg G G (aN (T.aP (ab G G ?_)))));have XA:=gI.close (hn:=by decide) iF S hV;refine bN (A:=RT.CM) (hn:=by decide) iq G XA G (ab G G (ad (aY ?_)));refine dz (σ:=Nat×Value) (λq=>[(7,vb),(10,vo),(11,.int .i64 (D:Int)),(15,q.2),(61,vb),(62,.int .i64 (bs.length:Int)),(63,.int .i64 (q.1:Int))]) (λq w=>q.1<=bs.length/\∃M2,Lt M2 w/\Step M w0 M2 w aE/\su L k xs bs pos M2 w/\Own RT.CM 272 M2 w w0.heap.size vb bs/\Own RT.fo 45 M2 w w0.heap.size vo (gg (qM k xs) 0 (L.take D))/\Own ((RT.int .i64).sl) 61 M2 w w0.heap.size q.2 ((xs.take q.1).map (jc (dX e.1.2 k)))) (λq=>bs.length-q.1) (0,.slice none 0 0) a88 ?_ ?_
        ·exact⟨bm _,_,hM,S,jO,gI,jQ,eG _ _ _ _ _⟩
        ·clear hM S jO gI jQ;rintro⟨j,vr⟩ w ⟨hj,M2,hM,S,jO,gI,jQ,Fv⟩;dsimp only at hj Fv ⊢;refine T.aP (cy G G G (ad (aN ?_)));refine bF G (λc20=>?_) (λc20=>?_)
         ·refine aR (aN (aY (T.aP ?_)));obtain⟨bj,G1⟩:∃x,bs[j]? =some x:=⟨_,an hV⟩;obtain⟨x,EB⟩:∃x,xs[j]? =some x:=⟨_,an hV⟩;have T2:=hOK x (ao EB);have acu:=gI.close (hn:=by decide) iF S hV;refine cD (A:=RT.CM) (hn:=by decide) iq E2 G G G acu cf hV (λu21 x_ iU aki=>?_);rw[aw]at iU;obtain rfl:=aK ((show bs[j]? =some bj from G1).symm.trans iU);refine bP Tryz.underlying272 G G G G G aki cf (λv21 Xv=>?_);obtain rfl:=nw.1 Xv;refine Rg.bg G G (aL (ab G G (ab G G ?_)));refine aQ G G akb (Co (jO j _ _ G1 EB) T2.may T2.ps hM) (λr22 w22 hc=>?_);obtain⟨Kq,xp⟩:=hc;rw[(xg x j EB)]at Kq;replace gI:=gI.bM xp;replace jQ:=jQ.bM xp;replace Fv:=Fv.bM xp;replace jO:=jO.step xp (λb hb h=>h);replace hM:=xp.lt hM;have:=S.size;replace S:=S.ax xp;refine fp (A:=((RT.int .i64).sl)) (hn:=by decide) (M:=M2) gp pb q0 G G hM (Kq) (.inr ⟨G,G⟩) (λanY anZ Hi zx=>?_);replace Kq:=Kq.le zx.le;replace gI:=gI.bM zx;replace jQ:=jQ.bM zx;replace Fv:=Fv.bM zx;replace jO:=jO.step zx (λb hb h=>h);replace hM:=zx.lt hM;have:=S.size;replace S:=S.ax zx;refine dH (M:=M2) (base:=w0.heap.size) gp pb rfl rfl rfl rfl Fv Hi cf (by rw[bW,a7,eJ];omega) (by rw[bW,a7,eJ];omega) (S.size) (λacv an0 an1 XC zy=>?_);replace Kq:=Kq.le zy.le;replace Hi:=Hi.le zy.le;replace gI:=gI.step zy (λb h1 h2=>gI.iZ Fv q0 h1 h2);replace jQ:=jQ.step zy (λb h1 h2=>jQ.iZ Fv q0 h1 h2);replace jO:=jO.step zy (λb hb h=>by obtain⟨_,j2⟩:=jO.cell hV hb;first|exact gI.fx j2 q0 h|exact jQ.fx j2 q0 h|exact Fv.fx j2 q0 h)
          replace hM:=zy.lt hM;have:=S.size;replace S:=S.dR zy Fv (br _);replace Fv:=XC;refine Rg.bg G G (aL (bB G G G hV (ab G G (ad ?_))));refine⟨G,(j+1,acv),a88,?_,?_⟩
          ·exact⟨by omega,_,hM,S,jO,gI,jQ,by rw[bX,EB,dx,eu];exact Fv⟩
          ·dsimp only;omega
         ·refine cQ (aN (T.aP (ab G G ?_)));have hrc:=Fv.close (hn:=by decide) iF S (by rw[bW,a7];omega);rw[bD hV]at hrc;refine aQ rfl rfl E54 (Br (M:=M) hrc (λl hl=>by obtain⟨x,_,rfl⟩:=cx.1 hl;exact Hg hwf x) (by rw[bW];omega)) (λr24 w24 hc=>?_);obtain⟨rfl,rfl⟩:=hc;refine bh (v':= .int .i64 (vv (dX e.1.2 k) xs:Int)) (by rw[hsd]) (Rg.bg G G (T.aP (ab G G (fU G G G (ad ?_)))));refine bF G (λU6=>?_) (λU6=>?_)
          ·have hph:qM k xs e=some (vv (dX e.1.2 k) xs:Int):=by unfold qM wV;rw[if_pos hV]
           refine aL (ab rfl rfl (ab rfl rfl (ab rfl rfl (dg (places:=[(0,1),(1,1)]) dB nc Iy rfl ⟨_,_,rfl,rfl,_,_,rfl,rfl,rfl⟩ (out:=[_,_]) ⟨0,[_],rfl,rfl,by simp[Value.cells],1,[_],rfl,rfl,by simp[Value.cells],rfl⟩ ?_))));refine fp (A:=RT.fo) (hn:=by decide) (M:=M2) aS nc q0 G G hM (FK hV hV) (.inl G) (λan3 an4 Hj E4=>?_);replace gI:=gI.bM E4;replace jQ:=jQ.bM E4;replace jO:=jO.step E4 (λb hb h=>h);replace hM:=E4.lt hM;have:=S.size;replace S:=S.ax E4;refine dH (M:=M2) (base:=w0.heap.size) aS nc G G G G jQ Hj cf (by have:=ky (f:=qM k xs) (L.take D) 0;rw[a7]at this;rw[eJ];omega) (by have:=ky (f:=qM k xs) (L.take D) 0;rw[a7]at this;rw[eJ];omega) (S.size) (λacw an5 an6 XD E5=>?_);replace Hj:=Hj.le E5.le;replace gI:=gI.step E5 (λb h1 h2=>gI.iZ jQ q0 h1 h2);replace jO:=jO.step E5 (λb hb h=>by obtain⟨_,j2⟩:=jO.cell hV hb;first|exact gI.fx j2 q0 h|exact jQ.fx j2 q0 h|exact Fv.fx j2 q0 h);replace hM:=E5.lt hM;have:=S.size;replace S:=S.dR E5 jQ (br _);replace jQ:=XD;refine Rg.bg G G (aL (ab G G ?_));have Hk:=gI.close (hn:=by decide) iF S hV;refine cD (A:=RT.CM) (hn:=by decide) iq E2 G G G Hk cf hV (λakk x_ iU Pk=>?_);obtain rfl:=aK ((show bs[0]? =some b0 from yi).symm.trans iU);refine bP Tryz.underlying272 G G G G G Pk cf (λakl Pl=>?_);obtain rfl:=nw.1 Pl;obtain⟨_,_,_,_,_,Bs,_⟩:=id (jO 0 _ _ yi uv);refine aQ G G GY (nN (jO 0 _ _ yi uv) hM uh.may uh.ps uh.by_ uh.ln) (λakm akn hc=>?_);obtain⟨rfl,zz,hC⟩:=hc;have Jr:lZ (pk L (cZ (k,x0))) (pos 0)=((t0+1:Nat):Int):=by unfold lZ;rw[ht0,if_pos hV];omega
           rw[Jr]at hC ⊢;obtain⟨D2,Kp,Pj⟩:=nQ uh.may (i:=((t0+1:Nat):Int)) hV;rw[Kp];have hDD:D<D2:=by have:=zw uh.may E3;omega
           have hB0:∀x,xs[0]? =some x->∀(t:Nat) p,(t:Int)<((t0+1:Nat):Int)->(pk L (cZ (k,x)))[t]? =some p->p.1<(D2:Int):=λx hx t p h1 h2=>by
            rw[uv]at hx;cases hx;rcases cK t t0 with h|h
            ·have:=mD uh.may h2 E3 h;simp only at this;omega
            ·obtain rfl:t=t0:=by omega
             rw[E3]at h2;cases h2;simp only;omega
           replace jO:=jO.Pd mu yi uv zz hC;replace gI:=gI.step zz (λc hc (h:c=b0)=>gI.fx Bs q0 (h▸hc));replace jQ:=jQ.step zz (λc hc (h:c=b0)=>jQ.fx Bs q0 (h▸hc));replace S:=S.ch zz (λc (h:c=b0)=>by have:=Xx b0 (ao yi);omega);replace hM:=zz.lt hM;refine Rg.bg G G ?_;refine⟨G,(D2,acw),a09,?_,?_⟩
           ·exact⟨Pj,_,_,hM,S,jO,P5.Pd hV hB0,by dsimp only;rw[if_pos rfl];exact Kp,gI,by rw[tT (m:=D+1) hV (hgB D2 Kp),l1 hLe,nR hph _];exact jQ⟩
           ·dsimp only;omega
          ·have hph:qM k xs e=none:=by unfold qM wV;rw[if_neg hV]
           refine aR (aL (ab G G ?_));have Hk:=gI.close (hn:=by decide) iF S hV;refine cD (A:=RT.CM) (hn:=by decide) iq E2 G G G Hk cf hV (λakk x_ iU Pk=>?_);obtain rfl:=aK ((show bs[0]? =some b0 from yi).symm.trans iU);refine bP Tryz.underlying272 G G G G G Pk cf (λakl Pl=>?_);obtain rfl:=nw.1 Pl;obtain⟨_,_,_,_,_,Bs,_⟩:=id (jO 0 _ _ yi uv);refine aQ G G GY (nN (jO 0 _ _ yi uv) hM uh.may uh.ps uh.by_ uh.ln) (λakm akn hc=>?_);obtain⟨rfl,zz,hC⟩:=hc;have Jr:lZ (pk L (cZ (k,x0))) (pos 0)=((t0+1:Nat):Int):=by unfold lZ;rw[ht0,if_pos hV];omega
           rw[Jr]at hC ⊢;obtain⟨D2,Kp,Pj⟩:=nQ uh.may (i:=((t0+1:Nat):Int)) hV;rw[Kp];have hDD:D<D2:=by have:=zw uh.may E3;omega
           have hB0:∀x,xs[0]? =some x->∀(t:Nat) p,(t:Int)<((t0+1:Nat):Int)->(pk L (cZ (k,x)))[t]? =some p->p.1<(D2:Int):=λx hx t p h1 h2=>by
            rw[uv]at hx;cases hx;rcases cK t t0 with h|h
            ·have:=mD uh.may h2 E3 h;simp only at this;omega
            ·obtain rfl:t=t0:=by omega
             rw[E3]at h2;cases h2;simp only;omega
           replace jO:=jO.Pd mu yi uv zz hC;replace gI:=gI.step zz (λc hc (h:c=b0)=>gI.fx Bs q0 (h▸hc));replace jQ:=jQ.step zz (λc hc (h:c=b0)=>jQ.fx Bs q0 (h▸hc));replace S:=S.ch zz (λc (h:c=b0)=>by have:=Xx b0 (ao yi);omega);replace hM:=zz.lt hM;refine Rg.bg G G ?_;refine⟨G,(D2,vo),a09,?_,?_⟩
           ·exact⟨Pj,_,_,hM,S,jO,P5.Pd hV hB0,by dsimp only;rw[if_pos rfl];exact Kp,gI,by rw[tT (m:=D+1) hV (hgB D2 Kp),l1 hLe,vE hph _,fz];exact jQ⟩
           ·dsimp only;omega
    ·refine cQ (T.aP (ab G G (Rg.bg G G (aJ (aM G G ⟨_,hM,S,?_⟩)))));rw[bD hV]at jQ;exact jQ
end Go.K
namespace Go.K
open Go.Proofs
namespace TKSide
theorem KT:TI Tryz.prog 36 (.slice none 0 0) 1 24:=by unfold TI;kernel_rfl
theorem nc:TI Tryz.prog 45 (.agg #[(.int .i64 0),(.int .i64 0)]) 2 16:=by unfold TI;kernel_rfl
theorem zA:TI Tryz.prog 261 (.agg #[(.int .i64 0),(.int .i64 0),(.int .i64 0)]) 3 24:=by unfold TI;kernel_rfl
theorem Sa:TI Tryz.prog 313 (.pointer none) 1 8:=by unfold TI;kernel_rfl
theorem acx:placesOf Tryz.prog 261=[(0,1),(1,1),(2,1)].map some:=by kernel_rfl
end TKSide
open TKSide
set_option maxRecDepth 10000
theorem Bu {M2:aH} {w6:World} {ba bb bx k:Nat} {a' b':List Fo} {v0 v1:Value} (hk:k<2) (fq:ba≠bb) (YC:bx≠ba) (Mw:bx≠bb) (KP:M2 ba) (wU:M2 bb) (Ia:w6.heap[ba]? =some (.cells #[v0] 36 (0,0))) (qC:((RT.fo).sl).V M2 w6 (lK a' (iT a' b') (decide (0<k))) v0) (Ib:w6.heap[bb]? =some (.cells #[v1] 36 (0,0))) (qH:((RT.fo).sl).V M2 w6 (lK b' (iT a' b') (decide (1<k))) v1):
  ∃pk lk vk,[ba,bb][k]? =some pk/\[a',b'][k]? =some lk/\w6.heap[pk]? =some (.cells #[vk] 36 (0,0))/\((RT.fo).sl).V M2 w6 lk vk/\M2 pk/\(pk=ba\/pk=bb)/\pk≠bx/\(∀(w':World) (v':Value),(∀q o,q≠pk->q≠bx->w6.heap[q]? =some o->w'.heap[q]? =some o)->(∀l v,((RT.fo).sl).V M2 w6 l v->((RT.fo).sl).V M2 w' l v)->w'.heap[pk]? =some (.cells #[v'] 36 (0,0))->((RT.fo).sl).V M2 w' (fJ lk (iT a' b')) v'→
   ∃v0 v1,w'.heap[ba]? =some (.cells #[v0] 36 (0,0))/\((RT.fo).sl).V M2 w' (lK a' (iT a' b') (decide (0<k+1))) v0/\w'.heap[bb]? =some (.cells #[v1] 36 (0,0))/\((RT.fo).sl).V M2 w' (lK b' (iT a' b') (decide (1<k+1))) v1):=by
 match k with
 |0=>exact⟨ba,a',v0,rfl,rfl,Ia,qC,KP,.inl rfl,λh=>YC h.symm,λw' v' h1 h2 h3 h4=>⟨v',v1,h3,h4,h1 bb _ (λh=>fq h.symm) (λh=>Mw h.symm) Ib,h2 _ _ qH⟩⟩
 |1=>exact⟨bb,b',v1,rfl,rfl,Ib,qH,wU,.inr rfl,λh=>Mw h.symm,λw' v' h1 h2 h3 h4=>⟨v0,v',h1 ba _ fq (λh=>YC h.symm) Ia,h2 _ _ qC,h3,h4⟩⟩
 |k+2=>omega
theorem Kr {M:aH} {w0:World} {va vb:Value} {a b:List Fo} (hM:Lt M w0) (ha:((RT.fo).sl).V M w0 a va) (hb:((RT.fo).sl).V M w0 b vb):
  Spec Tryz.prog 158 #[va,vb] w0 (λv' w'=>∃ba bb,v'= .func (.func 200) #[] #[.pointer (some ⟨ba,0,none⟩),.pointer (some ⟨bb,0,none⟩)]/\w'.heap[ba]? =some (.cells #[va] 36 (0,0))/\w'.heap[bb]? =some (.cells #[vb] 36 (0,0))/\ba≠bb/\w0.heap.size<=ba/\w0.heap.size<=bb/\Step M w0 (ins (ins M ba) bb) w' aE):=by
 refine a8 (args:=[_,_]) (fn:=Tryz.f158) Tryz.func158 G (n:=6) Tryz.ntmps158 (T.aP ?_);refine o2 M G G (λba w1 h1 Qu hA s1=>?_);rw[iO ha]at hA;refine o2 (ins M ba) G G (λbb w2 h2 Fl hB s2=>?_);rw[iO hb]at hB;have hA2:=s2.aB hA;have z1:=s1.size;refine Rg.bg G G (T.aP (jd (xs:=[]) (ys:=[.tmp 2,.tmp 3]) G G G (Rg.bg G G (aJ ?_))));exact aM G G ⟨ba,bb,G,hA2,hB,by omega,h1,by omega,s1.ax s2⟩
set_option maxHeartbeats 2000000 in
theorem Hl {w0:World} {ba bb yl:Nat} {a b:List Fo} {va vb:Value} {J:List Fo->List Fo->aH->World->Prop} {M:aH} {Jx:World->Prop} (fq:ba≠bb) (Rw:∀a b M w,J a b M w->Lt M w/\M ba/\M bb) (kC:∀a b M w M' w',J a b M w->Step M w M' w' (λj=>j=ba\/j=bb)->J a b M' w') (hy:∀(a b:List Fo) (M:aH) (w:World),J a b M w->qW a->qW b->(a≠[]\/b≠[])->xR Tryz.prog yl [.agg #[.int .i64 (iT a b),.int .i64 (qU a b 2),.int .i64 (qV a b 2)]].toArray w (λr w'=>∃c,r= .bool c/\(c=true->∃M' N,J (fJ a (iT a b)) (fJ b (iT a b)) M' w'∧Step M w M' w' N/\∀k,N k->k≠ba/\k≠bb)/\(c=false->Jx w'))) (ha:w0.heap[ba]? =some (.cells #[va] 36 (0,0))) (hb:w0.heap[bb]? =some (.cells #[vb] 36 (0,0))) (mY:((RT.fo).sl).V M w0 a va) (KO:((RT.fo).sl).V M w0 b vb) (oa:qW a) (ob:qW b) (h0:J a b M w0):
  Spec Tryz.prog 200 #[.func (.yield yl) #[] #[],.pointer (some ⟨ba,0,none⟩),.pointer (some ⟨bb,0,none⟩)] w0 (λ_ w'=>(∃M',J [] [] M' w')\/Jx w'):=by
 refine a8 (args:=[_,_,_]) (fn:=Tryz.f200) Tryz.func200 G (n:=85) Tryz.ntmps200 (aY ?_);refine dz (σ:=List Fo×List Fo) (λs=>[(0,.func (.yield yl) #[] #[]),(1,.pointer (some ⟨ba,0,none⟩)),(2,.pointer (some ⟨bb,0,none⟩))]) (λs w=>qW s.1/\qW s.2/\∃va vb M1,J s.1 s.2 M1 w/\w.heap[ba]? =some (.cells #[va] 36 (0,0))/\w.heap[bb]? =some (.cells #[vb] 36 (0,0))/\((RT.fo).sl).V M1 w s.1 va/\((RT.fo).sl).V M1 w s.2 vb) (λs=>s.1.length+s.2.length) (a,b) a09 ?_ ?_
 ·exact⟨oa,ob,va,vb,M,h0,ha,hb,mY,KO⟩
 ·rintro⟨a',b'⟩ w1 ⟨P7,P8,va1,vb1,M1,hJ,SU,YD,Ks,Ku⟩;dsimp only at P7 P8 hJ Ks Ku ⊢;obtain⟨oG,Sb,Sc⟩:=Rw _ _ _ _ hJ;refine aN (T.aP (aG aS G G G Ub G (bN aS G Ks G (fU G G G (ab G G ?_)))));refine aO (g:=12) G (λSd=>?_) (λSd=>?_)
  ·have Pm:a'≠[]\/b'≠[]:= .inl (by intro h;rw[h]at Sd;simp at Sd);refine aj rfl rfl rfl rfl (aj rfl rfl rfl rfl (aj rfl rfl rfl rfl (aU rfl rfl rfl (ad (kJ rfl (aR (aY (T.aP (dg (places:=[(0,1),(1,1),(2,1)]) db zA acx rfl ⟨_,_,rfl,rfl,rfl⟩ (out:=[_,.int .i64 0,.int .i64 0]) ⟨0,[_],rfl,rfl,by simp[Value.cells],rfl⟩ ?_)))))))));refine ec M1 zA G (λbx w2 z2 z2' hX0 s2=>?_);obtain⟨M2,wZ⟩:∃M2,M2=ins M1 bx:=⟨_,rfl⟩;have Sf:M2 bx:=by rw[wZ];exact .inl G
   have KP:M2 ba:=by rw[wZ];exact .inr Sb
   have wU:M2 bb:=by rw[wZ];exact .inr Sc
   have YC:bx≠ba:=by have:=ae SU;omega
   have Mw:bx≠bb:=by have:=ae YD;omega
   rw[<-wZ]at s2;refine cM (M:=M2) zA G G ae5 rfl rfl hX0 Sf (λw3 hX3 s3=>?_);change w3.heap[bx]? =some (.cells #[.int .i64 2147483648,.int .i64 0,.int .i64 0] 261 (0,0))at hX3;have S3:=s2.ch s3 (λj hj=>by subst hj;exact z2);have hA3:=S3.aB SU;have hB3:=S3.aB YD;have Pn:=Ks.le S3.le;have Pp:=Ku.le S3.le;have NU:=S3.lt oG;refine ad (aN (T.aP (aG aS G G G Ub G (aG aS G G G Ub G ?_))));refine Rg.K3 (A:=(RT.fo).sl) (hn:=by decide) (M:=M2) (xs:=[a',b']) Tryz.underlying312 KT G q0 G ⟨_,_,_,G,G,G,Pn,_,_,_,G,G,G,Pp,G⟩ G NU (.inr ⟨G,G⟩) q0 (λu20 w4 Hm s4=>?_);refine bN Tryz.underlying312 G Hm G (ab G G (ad (aY ?_)));refine dz (σ:=Nat) (λs=>[(0,.func (.yield yl) #[] #[]),(1,.pointer (some ⟨ba,0,none⟩)),(2,.pointer (some ⟨bb,0,none⟩)),(4,.pointer (some ⟨bx,0,none⟩)),(20,u20),(21,.int .i64 2),(22,.int .i64 s)]) (λs w=>s<=2/\Step M1 w1 M2 w aE/\w.heap[bx]? =some (.cells #[.int .i64 (PY a' b' s),.int .i64 0,.int .i64 0] 261 (0,0))/\(((RT.fo).sl).sl).V M2 w [a',b'] u20) (λs=>2-s) 0 a88 ?_ ?_
   ·exact⟨bm _,S3.ax s4,s4.aB hX3,Hm⟩
   ·rintro k w5 ⟨BF,S5,Kv,wL⟩;refine T.aP (cy G G G (ad (aN ?_)));refine bF G (λc3=>?_) (λc3=>?_)
    ·refine aR (aN (aY (T.aP ?_)))
     obtain⟨lk,mh⟩:∃x,[a',b'][k]? =some x:=by
      have XE:k<[a',b'].length:=by simp;omega
      exact⟨_,an XE⟩
     have Fm:([a',b']:List (List Fo)).length=2:=rfl;refine cD Tryz.underlying312 KT G G G (wL) cf a42 (λJw GD yX qZ=>?_);obtain rfl:lk=GD:=dJ (aK (yX.symm.trans (by rw[aw];exact mh)));refine bP aS G G G G G qZ cf (λF4 nE=>?_);replace nE:((RT.fo).sl).V M2 _ lk F4:=nE;refine Rg.bg G G (T.aP (ab G G (bN aS G nE G (fU G G G (ad ?_)))));refine bF G (λc5=>?_) (λc5=>?_)
     ·obtain⟨⟨d,s⟩,tl,rfl⟩:∃p tl,lk=p::tl:=by
       cases lk with
       |nil=>simp at c5
       |cons p tl=>exact⟨p,tl,rfl⟩
      apply T.qS (M:=M2) mixed [] [cj.eq _,cj.eq (.int .i64 (PY a' b' k)),cj.eq _,cj.ptr (RT.fo) (d,s),cj.ptr (RT.int .i64) d,cj.eq (.int .i64 d),cj.eq _] 7
      ·rfl
      ·rfl
      ·rfl
      ·rfl
      ·rfl
      ·exact a86
      ·exact qA
      ·refine ay ?_ ?_
       ·intro wD E sD;refine aT db G G I3 q0 G G ?_;exact a00
       refine ay ?_ ?_
       ·intro wD E sD;refine aq (aG ak G G G (bY sD Ub) G ?_);exact a00
       refine ay ?_ ?_
       ·intro wD E sD;refine ab G G ?_;exact a00
       refine ay ?_ ?_
       ·intro wD E sD;refine aq ?_;refine cD aS nc G G G (nE.le sD.le) cf hV (λui ai Kw Pq=>?_);obtain rfl:(d,s)=ai:=dJ (aK (Kw.symm.trans rfl));exact ai5
       refine ay ?_ ?_
       ·intro wD E sD;intro v3 uQ;refine ar (A:=RT.fo) (B:=RT.int .i64) dB G G I3 q0 (Yl) G G q0 (show cR (RT.fo) M2 wD v3 (d,s)from uQ) cf (λuf tH=>?_);exact a69
       refine ay ?_ ?_
       ·intro wD E sD;intro v4 pE;refine b4 ak G G (show cR (RT.int .i64) M2 wD v4 d from pE) cf (λkO=>?_);exact a00
       refine ay ?_ ?_
       ·intro wD E sD;refine aq (aq (Rg.min2 G G G ?_));exact a00
       exact jS
      ·intro wD6 Au;refine aq (aq (aq ?_));intro akq acA;intro akr acB;refine aq (aq (aT db G G I3 q0 G G ?_));refine cg (M:=M2) I3 G G (Au.aB Kv) G G Sf (λw7 XF s7=>?_);change w7.heap[bx]? =some (.cells #[.int .i64 (min (PY a' b' k) d),.int .i64 0,.int .i64 0] 261 (0,0))at XF;refine ad (aL (bB G G G hV (ab G G (ad ?_))));refine⟨G,k+1,a88,?_,?_⟩
       ·first
        |exact⟨by omega,(S5.ax Au).ch s7 (λj hj=>by subst hj;exact z2),by rw[kH mh];exact XF,(wL.le Au.le).le s7.le⟩
        |exact⟨by omega,S5,by rw[kH mh,nj];exact Kv,wL⟩
       ·show 2-(k+1)<2-k;omega
     ·have nj:lk=[]:=by
       cases lk with
       |nil=>rfl
       |cons p tl=>simp at c5
      refine aR (aL (bB G G G hV (ab G G (ad ?_))));refine⟨G,k+1,a88,?_,?_⟩
      ·first
       |exact⟨by omega,(S5.ax Au).ch s7 (λj hj=>by subst hj;exact z2),by rw[kH mh];exact XF,(wL.le Au.le).le s7.le⟩
       |exact⟨by omega,S5,by rw[kH mh,nj];exact Kv,wL⟩
      ·show 2-(k+1)<2-k;omega
    ·refine cQ (aN (T.aP ?_));obtain rfl:k=2:=by omega
     replace Kv:w5.heap[bx]? =some (.cells #[.int .i64 (iT a' b'),.int .i64 0,.int .i64 0] 261 (0,0)):=Kv;have XG:=S5.lt oG;refine Rg.K3 (A:=RT.CM) (hn:=by decide) (M:=M2) (xs:=[ba,bb]) Tryz.underlying314 Sa G q0 G ⟨_,_,_,G,G,G,nw.2 G,_,_,_,G,G,G,nw.2 G,G⟩ G XG (.inr ⟨G,G⟩) q0 (λu38 w8 Pr s8=>?_);refine bN Tryz.underlying314 G Pr G (ab G G (ad (aY ?_)));refine dz (σ:=Nat) (λs=>[(0,.func (.yield yl) #[] #[]),(1,.pointer (some ⟨ba,0,none⟩)),(2,.pointer (some ⟨bb,0,none⟩)),(4,.pointer (some ⟨bx,0,none⟩)),(38,u38),(39,.int .i64 2),(40,.int .i64 s)]) (λs w=>s<=2/\((RT.CM).sl).V M2 w [ba,bb] u38/\Step M1 w1 M2 w (λj=>j=ba\/j=bb)/\w.heap[bx]? =some (.cells #[.int .i64 (iT a' b'),.int .i64 (qU a' b' s),.int .i64 (qV a' b' s)] 261 (0,0))/\∃v0 v1,w.heap[ba]? =some (.cells #[v0] 36 (0,0))/\((RT.fo).sl).V M2 w (lK a' (iT a' b') (decide (0<s))) v0/\w.heap[bb]? =some (.cells #[v1] 36 (0,0))/\((RT.fo).sl).V M2 w (lK b' (iT a' b') (decide (1<s))) v1) (λs=>2-s) 0 a88 ?_ ?_
     ·exact⟨bm _,Pr,(S5.ax s8).ek a18 (λj hj=>by rcases hj with rfl|rfl;exact Sb;exact Sc),s8.aB Kv,va1,vb1,s8.aB (S5.aB SU),(Ks.le S5.le).le s8.le,s8.aB (S5.aB YD),(Ku.le S5.le).le s8.le⟩
     ·rintro k w6 ⟨BF,kZ,S6,GH,v0,v1,Ia,qC,Ib,qH⟩;have hmy:=HF a' b' k;refine T.aP (cy G G G (ad (aN ?_)));refine bF G (λc9=>?_) (λc9=>?_)
      ·refine aR (aN (aY (T.aP ?_)));obtain⟨pk,lk,vk,hpk,mh,Ps,Hn,hkM,hkN,TT,ku⟩:=Bu (show k<2 by omega) fq YC Mw KP wU Ia qC Ib qH;have hl3:([ba,bb]:List Nat).length=2:=rfl;refine cD Tryz.underlying314 Sa G G G (kZ) cf a42 (λMn Et yY yC=>?_);obtain rfl:pk=Et:=dJ (aK (yY.symm.trans (by rw[aw];exact hpk)));refine bP Tryz.underlying313 G G G G G yC cf (λv10 sh=>?_);obtain rfl:=nw.1 sh;refine Rg.bg G G (aN ?_);by_cases tU:((lk.length:Nat):Int)>0
       ·obtain⟨⟨d,s⟩,tl,rfl⟩:∃p tl,lk=p::tl:=by
         cases lk with
         |nil=>simp at tU
         |cons p tl=>exact⟨p,tl,rfl⟩
        apply T.draw (M:=M2) mixed [cj.eq _,cj.eq _,cj.eq vk,cj.eq _,cj.eq _,cj.eq (.bool true),cj.eq _,cj.eq _,cj.eq vk,cj.ptr (RT.fo) (d,s),cj.ptr (RT.int .i64) d,cj.eq (.int .i64 d),cj.eq _,cj.eq (.int .i64 (iT a' b')),cj.eq _,cj.eq _]
        ·rfl
        ·refine aI ?_ ?_
         ·intro wD E sD;refine ab G G ?_;exact a00
         refine aI ?_ ?_
         ·intro wD E sD;refine aq (aW G ⟨_,G⟩ G ?_);exact a00
         refine aI ?_ ?_
         ·intro wD E sD;refine aq (aG aS G G G (bY sD Ub) G ?_);exact a00
         refine aI ?_ ?_
         ·intro wD E sD;refine aq (bN aS G (Hn.le sD.le) G ?_);exact a00
         refine aI ?_ ?_
         ·intro wD E sD;refine aq (fU G G G ?_);exact a00
         refine aI ?_ ?_
         ·intro wD E sD;refine aq (ab G G ?_);refine ad ⟨G,G,_,G,?_,aV⟩;exact congrArg Value.bool (decide_eq_true tU)
         refine aI ?_ ?_
         ·intro wD E sD;refine aq (ah G G (ab G G ?_));exact a00
         refine aI ?_ ?_
         ·intro wD E sD;refine aq (aq (ah G G (aW G ⟨_,G⟩ G ?_)));exact a00
         refine aI ?_ ?_
         ·intro wD E sD;refine aq (aq (ah G G (aG aS G G G (bY sD Ub) G ?_)));exact a00
         refine aI ?_ ?_
         ·intro wD E sD;refine aq (aq (ah G G ?_));refine cD aS nc G G G (Hn.le sD.le) cf hV (λui ai Kw Pq=>?_);obtain rfl:(d,s)=ai:=dJ (aK (Kw.symm.trans rfl));exact ai5
         refine aI ?_ ?_
         ·intro wD E sD;intro v9 JB;refine aq (ah G G ?_);refine ar (A:=RT.fo) (B:=RT.int .i64) dB G G I3 q0 (Yl) G G q0 (show cR (RT.fo) M2 wD v9 (d,s)from JB) cf (λuf tH=>?_);exact a69
         refine aI ?_ ?_
         ·intro wD E sD;intro v10 sh;refine aq (ah G G ?_);refine b4 ak G G (show cR (RT.int .i64) M2 wD v10 d from sh) cf (λkO=>?_);exact a00
         refine aI ?_ ?_
         ·intro wD E sD;refine aq (ah G G (aT db G G I3 q0 G G ?_));exact a00
         refine aI ?_ ?_
         ·intro wD E sD;refine aq (aq (ah G G (aG ak G G G (bY sD Ub) G ?_)));exact a00
         refine aI ?_ ?_
         ·intro wD E sD;refine aq (aq (aq (ah G G (ic G G G ?_))));exact a00
         refine aI ?_ ?_
         ·intro wD E sD;refine aq (aq (aU G G G ?_));exact a00
         exact zV
        ·intro Eg dU;refine aq (aq (aq (aq (aq (aq (aq (aq (aq ?_))))))));intro acD XH;intro NX xq;refine aq (aq (aq (aq (aq ?_))));have Cm:=dU.aB GH;have E6:=dU.aB Ps;refine bF G (λJm=>?_) (λJm=>?_)
         ·refine T.aP (aT db G G I3 q0 G G (aG ak G G G Cm G (bh (v':= .int .i64 (qU a' b' k)) G (bB G G G hV (aT db G G I3 q0 G G ?_)))));refine cg (M:=M2) I3 G G Cm G G Sf (λMe GI mF=>?_);change Me.heap[bx]? =some (.cells #[.int .i64 (iT a' b'),.int .i64 (qU a' b' k+1),.int .i64 (qV a' b' k)] 261 (0,0))at GI;have Pt:=mF.bR E6 TT;have E7:=(Hn.le dU.le).le mF.le;refine ad (aN ?_);apply T.qS (M:=M2) mixed [] [cj.eq _,cj.eq (.int .i64 (qV a' b' k)),cj.eq _,cj.eq _,cj.eq vk,cj.ptr (RT.fo) (d,s),cj.ptr (RT.int .i64) s,cj.eq (.int .i64 s),cj.eq _] 9
          ·rfl
          ·rfl
          ·rfl
          ·rfl
          ·rfl
          ·exact a86
          ·exact qA
          ·refine ay ?_ ?_
           ·intro wD E sD;refine aT db G G I3 q0 G G ?_;exact a00
           refine ay ?_ ?_
           ·intro wD E sD;refine aq (aG ak G G G (bY sD Ub) G ?_);exact a00
           refine ay ?_ ?_
           ·intro wD E sD;refine ab G G ?_;exact a00
           refine ay ?_ ?_
           ·intro wD E sD;refine aq (aW G ⟨_,G⟩ G ?_);exact a00
           refine ay ?_ ?_
           ·intro wD E sD;refine aq (aG aS G G G (bY sD Ub) G ?_);exact a00
           refine ay ?_ ?_
           ·intro wD E sD;refine aq ?_;refine cD aS nc G G G (E7.le sD.le) cf hV (λui ai Kw Pq=>?_);obtain rfl:(d,s)=ai:=dJ (aK (Kw.symm.trans rfl));exact ai5
           refine ay ?_ ?_
           ·intro wD E sD;intro v5 pF;refine ar (A:=RT.fo) (B:=RT.int .i64) dB G G I3 q0 (fo1) G G q0 (show cR (RT.fo) M2 wD v5 (d,s)from pF) cf (λuf tH=>?_);exact a69
           refine ay ?_ ?_
           ·intro wD E sD;intro v6 p9;refine b4 ak G G (show cR (RT.int .i64) M2 wD v6 s from p9) cf (λkO=>?_);exact a00
           refine ay ?_ ?_
           ·intro wD E sD;refine aq (aq (Rg.xF G G G ?_));exact a00
           exact jS
          ·intro Mq iN;refine aq (aq (aq (aq (aq ?_))));intro HT uO;intro Ty yS;refine aq (aq (aT db G G I3 q0 G G ?_));have NZ:=iN.aB GI;refine cg (M:=M2) I3 G G NZ G G Sf (λMF Pu jn=>?_);change MF.heap[bx]? =some (.cells #[.int .i64 (iT a' b'),.int .i64 (qU a' b' k+1),.int .i64 (IntKind.i64.wrap (qV a' b' k+s))] 261 (0,0))at Pu;have E8:=jn.bR (iN.aB Pt) TT;have Pv:=(E7.le iN.le).le jn.le;refine ad (aL (ab G G (ab G G (aW G ⟨_,G⟩ G (aG aS G G G E8 G (bh (v':=vk) G ?_))))));refine Rg.nV (A:=RT.fo) (hn:=by decide) aS nc rfl rfl rfl Pv (by simp only[cz];omega) (λKS si=>?_);replace si:((RT.fo).sl).V M2 MF tl KS:=si;refine aW G ⟨_,G⟩ G ?_;refine cg (M:=M2) KT G G E8 G (jl si G G) hkM (λF7 tV oy=>?_);change F7.heap[pk]? =some (.cells #[KS] 36 (0,0))at tV;have Ho:=oy.bR Pu (λh=>TT h.symm);have sw:hit ((d,s)::tl) (iT a' b')=true:=uF Jm;have XI:fJ ((d,s)::tl) (iT a' b')=tl:=by unfold fJ;rw[if_pos sw];rfl
           have SK:=((((S6.ax dU).ch mF (λj hj=>by subst hj;omega)).ax iN).ch jn (λj hj=>by subst hj;omega)).trans oy (λj _ hj=>by subst hj;exact hkN);have Kx:=aX (aX (aX (aX dU.le mF.le) iN.le) jn.le) oy.le;refine ad (aL (bB G G G hV (ab G G (ad ?_))));refine⟨G,k+1,a88,?_,?_⟩
           ·first
            |exact⟨by omega,kZ.le Kx,SK,by rw[iz mh,iA mh];unfold nz ny;rw[if_pos sw,if_pos sw];exact Ho,ku F7 KS (λq o h1 h2 h3=>oy.bR (jn.bR (iN.aB (mF.bR (dU.aB h3) h2)) h2) h1) (λl v h=>h.le Kx) tV ad3⟩
            |exact⟨by omega,kZ.le dU.le,S6.ax dU,by rw[iz mh,iA mh];unfold nz ny;rw[if_neg a99,if_neg a99];exact dU.aB GH,ku _ vk (λq o h1 h2 h3=>dU.aB h3) (λl v h=>h.le dU.le) (dU.aB Ps) a52⟩
           ·show 2-(k+1)<2-k;omega
         ·have Aw:hit ((d,s)::tl) (iT a' b')=false:=decide_eq_false Jm;refine aR (aL (bB G G G hV (ab G G (ad ?_))));refine⟨G,k+1,a88,?_,?_⟩
          ·first
           |exact⟨by omega,kZ.le Kx,SK,by rw[iz mh,iA mh];unfold nz ny;rw[if_pos sw,if_pos sw];exact Ho,ku F7 KS (λq o h1 h2 h3=>oy.bR (jn.bR (iN.aB (mF.bR (dU.aB h3) h2)) h2) h1) (λl v h=>h.le Kx) tV ad3⟩
           |exact⟨by omega,kZ.le dU.le,S6.ax dU,by rw[iz mh,iA mh];unfold nz ny;rw[if_neg a99,if_neg a99];exact dU.aB GH,ku _ vk (λq o h1 h2 h3=>dU.aB h3) (λl v h=>h.le dU.le) (dU.aB Ps) a52⟩
          ·show 2-(k+1)<2-k;omega
       ·have Aw:hit lk (iT a' b')=false:=by
         cases lk with
         |nil=>rfl
         |cons p tl=>simp at tU
        apply T.draw (M:=M2) mixed [cj.eq _,cj.eq _,cj.eq vk,cj.eq _,cj.eq _,cj.eq (.bool false),cj.eq undef,cj.eq undef,cj.eq undef,cj.eq undef,cj.eq undef,cj.eq undef,cj.eq undef,cj.eq undef,cj.eq undef,cj.eq _]
        ·rfl
        ·refine aI ?_ ?_
         ·intro wD E sD;refine ab G G ?_;exact a00
         refine aI ?_ ?_
         ·intro wD E sD;refine aq (aW G ⟨_,G⟩ G ?_);exact a00
         refine aI ?_ ?_
         ·intro wD E sD;refine aq (aG aS G G G (bY sD Ub) G ?_);exact a00
         refine aI ?_ ?_
         ·intro wD E sD;refine aq (bN aS G (Hn.le sD.le) G ?_);exact a00
         refine aI ?_ ?_
         ·intro wD E sD;refine aq (fU G G G ?_);exact a00
         refine aI ?_ ?_
         ·intro wD E sD;refine aq (ab G G ?_);refine ad ⟨G,G,_,G,?_,aV⟩;exact congrArg Value.bool (decide_eq_false tU)
         refine aI ?_ ?_
         ·intro wD E sD;refine aq ?_;exact a10
         refine aI ?_ ?_
         ·intro wD E sD;refine aq (aq ?_);exact a10
         refine aI ?_ ?_
         ·intro wD E sD;refine aq (aq ?_);exact a10
         refine aI ?_ ?_
         ·intro wD E sD;refine aq (aq ?_);exact a10
         refine aI ?_ ?_
         ·intro wD E sD;refine aq (aq ?_);exact a10
         refine aI ?_ ?_
         ·intro wD E sD;refine aq (aq ?_);exact a10
         refine aI ?_ ?_
         ·intro wD E sD;refine aq ?_;exact a10
         refine aI ?_ ?_
         ·intro wD E sD;refine aq (aq ?_);exact a10
         refine aI ?_ ?_
         ·intro wD E sD;refine aq (aq (aq ?_));exact a10
         refine aI ?_ ?_
         ·intro wD E sD;refine aq (aq (az G G G ?_));exact a00
         exact zV
        ·intro Eg dU;refine aq (aq (aq (aq (aq (aq (aq (aq (aq (aq (aq (aq ?_)))))))))));refine aq (aq (aq (aq ?_)));have Cm:=dU.aB GH;have E6:=dU.aB Ps;refine iS G (aR (aL (bB G G G hV (ab G G (ad ?_)))));refine⟨G,k+1,a88,?_,?_⟩
         ·first
          |exact⟨by omega,kZ.le Kx,SK,by rw[iz mh,iA mh];unfold nz ny;rw[if_pos sw,if_pos sw];exact Ho,ku F7 KS (λq o h1 h2 h3=>oy.bR (jn.bR (iN.aB (mF.bR (dU.aB h3) h2)) h2) h1) (λl v h=>h.le Kx) tV ad3⟩
          |exact⟨by omega,kZ.le dU.le,S6.ax dU,by rw[iz mh,iA mh];unfold nz ny;rw[if_neg a99,if_neg a99];exact dU.aB GH,ku _ vk (λq o h1 h2 h3=>dU.aB h3) (λl v h=>h.le dU.le) (dU.aB Ps) a52⟩
         ·show 2-(k+1)<2-k;omega
      ·refine cQ (T.aP (ab G G ?_));obtain rfl:k=2:=by omega
       refine eC (vs:=[.int .i64 (iT a' b'),.int .i64 (qU a' b' 2),.int .i64 (qV a' b' 2)]) db G zA G G G GH ?_;have hJ7:=kC _ _ _ _ _ _ hJ S6;refine Rg.yield G (vs:=[.agg #[.int .i64 (iT a' b'),.int .i64 (qU a' b' 2),.int .i64 (qV a' b' 2)]]) G G (hy a' b' M2 _ hJ7 P7 P8 Pm) (λr9 w9 h9=>?_);obtain⟨c,rfl,hc5,RU⟩:=h9;refine iv G G (bh (v':= .bool (decide (¬c=true))) (by simp) (ad ?_));refine bF G (λFt=>?_) (λFt=>?_)
       ·refine aJ ?_;exact CQ G (.inr (RU (by simpa using Ft)))
       ·obtain⟨M9,N9,hJ9,s9,hN9⟩:=hc5 (cr.1 Ft);refine aR ?_;refine⟨G,(fJ a' (iT a' b'),fJ b' (iT a' b')),a09,?_,?_⟩
        ·exact⟨P7.rest _,P8.rest _,v0,v1,M9,hJ9,s9.bR Ia (λh=>(hN9 _ h).1 rfl),s9.bR Ib (λh=>(hN9 _ h).2 rfl),qC.le s9.le,qH.le s9.le⟩
        ·exact qn P7 P8 Pm
  ·refine ah G G (aG aS G G G Ub G (ah G G (bN aS G Ku G (ah G G (fU G G G (az G G G (ad ?_)))))));refine bF G (λc0=>?_) (λc0=>?_)
   ·have Pm:a'≠[]\/b'≠[]:= .inr (by intro h;rw[h]at c0;simp at c0);refine aR (aY (T.aP (dg (places:=[(0,1),(1,1),(2,1)]) db zA acx rfl ⟨_,_,rfl,rfl,rfl⟩ (out:=[_,.int .i64 0,.int .i64 0]) ⟨0,[_],rfl,rfl,by simp[Value.cells],rfl⟩ ?_)));refine ec M1 zA G (λbx w2 z2 z2' hX0 s2=>?_);obtain⟨M2,wZ⟩:∃M2,M2=ins M1 bx:=⟨_,rfl⟩;have Sf:M2 bx:=by rw[wZ];exact .inl G
    have KP:M2 ba:=by rw[wZ];exact .inr Sb
    have wU:M2 bb:=by rw[wZ];exact .inr Sc
    have YC:bx≠ba:=by have:=ae SU;omega
    have Mw:bx≠bb:=by have:=ae YD;omega
    rw[<-wZ]at s2;refine cM (M:=M2) zA G G ae5 rfl rfl hX0 Sf (λw3 hX3 s3=>?_);change w3.heap[bx]? =some (.cells #[.int .i64 2147483648,.int .i64 0,.int .i64 0] 261 (0,0))at hX3;have S3:=s2.ch s3 (λj hj=>by subst hj;exact z2);have hA3:=S3.aB SU;have hB3:=S3.aB YD;have Pn:=Ks.le S3.le;have Pp:=Ku.le S3.le;have NU:=S3.lt oG;refine ad (aN (T.aP (aG aS G G G Ub G (aG aS G G G Ub G ?_))));refine Rg.K3 (A:=(RT.fo).sl) (hn:=by decide) (M:=M2) (xs:=[a',b']) Tryz.underlying312 KT G q0 G ⟨_,_,_,G,G,G,Pn,_,_,_,G,G,G,Pp,G⟩ G NU (.inr ⟨G,G⟩) q0 (λu20 w4 Hm s4=>?_);refine bN Tryz.underlying312 G Hm G (ab G G (ad (aY ?_)));refine dz (σ:=Nat) (λs=>[(0,.func (.yield yl) #[] #[]),(1,.pointer (some ⟨ba,0,none⟩)),(2,.pointer (some ⟨bb,0,none⟩)),(4,.pointer (some ⟨bx,0,none⟩)),(20,u20),(21,.int .i64 2),(22,.int .i64 s)]) (λs w=>s<=2/\Step M1 w1 M2 w aE/\w.heap[bx]? =some (.cells #[.int .i64 (PY a' b' s),.int .i64 0,.int .i64 0] 261 (0,0))/\(((RT.fo).sl).sl).V M2 w [a',b'] u20) (λs=>2-s) 0 a88 ?_ ?_
    ·exact⟨bm _,S3.ax s4,s4.aB hX3,Hm⟩
    ·rintro k w5 ⟨BF,S5,Kv,wL⟩;refine T.aP (cy G G G (ad (aN ?_)));refine bF G (λc3=>?_) (λc3=>?_)
     ·refine aR (aN (aY (T.aP ?_)))
      obtain⟨lk,mh⟩:∃x,[a',b'][k]? =some x:=by
       have XE:k<[a',b'].length:=by simp;omega
       exact⟨_,an XE⟩
      have Fm:([a',b']:List (List Fo)).length=2:=rfl;refine cD Tryz.underlying312 KT G G G (wL) cf a42 (λJw GD yX qZ=>?_);obtain rfl:lk=GD:=dJ (aK (yX.symm.trans (by rw[aw];exact mh)));refine bP aS G G G G G qZ cf (λF4 nE=>?_);replace nE:((RT.fo).sl).V M2 _ lk F4:=nE;refine Rg.bg G G (T.aP (ab G G (bN aS G nE G (fU G G G (ad ?_)))));refine bF G (λc5=>?_) (λc5=>?_)
      ·obtain⟨⟨d,s⟩,tl,rfl⟩:∃p tl,lk=p::tl:=by
        cases lk with
        |nil=>simp at c5
        |cons p tl=>exact⟨p,tl,rfl⟩
       apply T.qS (M:=M2) mixed [] [cj.eq _,cj.eq (.int .i64 (PY a' b' k)),cj.eq _,cj.ptr (RT.fo) (d,s),cj.ptr (RT.int .i64) d,cj.eq (.int .i64 d),cj.eq _] 7
       ·rfl
       ·rfl
       ·rfl
       ·rfl
       ·rfl
       ·exact a86
       ·exact qA
       ·refine ay ?_ ?_
        ·intro wD E sD;refine aT db G G I3 q0 G G ?_;exact a00
        refine ay ?_ ?_
        ·intro wD E sD;refine aq (aG ak G G G (bY sD Ub) G ?_);exact a00
        refine ay ?_ ?_
        ·intro wD E sD;refine ab G G ?_;exact a00
        refine ay ?_ ?_
        ·intro wD E sD;refine aq ?_;refine cD aS nc G G G (nE.le sD.le) cf hV (λui ai Kw Pq=>?_);obtain rfl:(d,s)=ai:=dJ (aK (Kw.symm.trans rfl));exact ai5
        refine ay ?_ ?_
        ·intro wD E sD;intro v3 uQ;refine ar (A:=RT.fo) (B:=RT.int .i64) dB G G I3 q0 (Yl) G G q0 (show cR (RT.fo) M2 wD v3 (d,s)from uQ) cf (λuf tH=>?_);exact a69
        refine ay ?_ ?_
        ·intro wD E sD;intro v4 pE;refine b4 ak G G (show cR (RT.int .i64) M2 wD v4 d from pE) cf (λkO=>?_);exact a00
        refine ay ?_ ?_
        ·intro wD E sD;refine aq (aq (Rg.min2 G G G ?_));exact a00
        exact jS
       ·intro wD6 Au;refine aq (aq (aq ?_));intro akq acA;intro akr acB;refine aq (aq (aT db G G I3 q0 G G ?_));refine cg (M:=M2) I3 G G (Au.aB Kv) G G Sf (λw7 XF s7=>?_);change w7.heap[bx]? =some (.cells #[.int .i64 (min (PY a' b' k) d),.int .i64 0,.int .i64 0] 261 (0,0))at XF;refine ad (aL (bB G G G hV (ab G G (ad ?_))));refine⟨G,k+1,a88,?_,?_⟩
        ·first
         |exact⟨by omega,(S5.ax Au).ch s7 (λj hj=>by subst hj;exact z2),by rw[kH mh];exact XF,(wL.le Au.le).le s7.le⟩
         |exact⟨by omega,S5,by rw[kH mh,nj];exact Kv,wL⟩
        ·show 2-(k+1)<2-k;omega
      ·have nj:lk=[]:=by
        cases lk with
        |nil=>rfl
        |cons p tl=>simp at c5
       refine aR (aL (bB G G G hV (ab G G (ad ?_))));refine⟨G,k+1,a88,?_,?_⟩
       ·first
        |exact⟨by omega,(S5.ax Au).ch s7 (λj hj=>by subst hj;exact z2),by rw[kH mh];exact XF,(wL.le Au.le).le s7.le⟩
        |exact⟨by omega,S5,by rw[kH mh,nj];exact Kv,wL⟩
       ·show 2-(k+1)<2-k;omega
     ·refine cQ (aN (T.aP ?_));obtain rfl:k=2:=by omega
      replace Kv:w5.heap[bx]? =some (.cells #[.int .i64 (iT a' b'),.int .i64 0,.int .i64 0] 261 (0,0)):=Kv;have XG:=S5.lt oG;refine Rg.K3 (A:=RT.CM) (hn:=by decide) (M:=M2) (xs:=[ba,bb]) Tryz.underlying314 Sa G q0 G ⟨_,_,_,G,G,G,nw.2 G,_,_,_,G,G,G,nw.2 G,G⟩ G XG (.inr ⟨G,G⟩) q0 (λu38 w8 Pr s8=>?_);refine bN Tryz.underlying314 G Pr G (ab G G (ad (aY ?_)));refine dz (σ:=Nat) (λs=>[(0,.func (.yield yl) #[] #[]),(1,.pointer (some ⟨ba,0,none⟩)),(2,.pointer (some ⟨bb,0,none⟩)),(4,.pointer (some ⟨bx,0,none⟩)),(38,u38),(39,.int .i64 2),(40,.int .i64 s)]) (λs w=>s<=2/\((RT.CM).sl).V M2 w [ba,bb] u38/\Step M1 w1 M2 w (λj=>j=ba\/j=bb)/\w.heap[bx]? =some (.cells #[.int .i64 (iT a' b'),.int .i64 (qU a' b' s),.int .i64 (qV a' b' s)] 261 (0,0))/\∃v0 v1,w.heap[ba]? =some (.cells #[v0] 36 (0,0))/\((RT.fo).sl).V M2 w (lK a' (iT a' b') (decide (0<s))) v0/\w.heap[bb]? =some (.cells #[v1] 36 (0,0))/\((RT.fo).sl).V M2 w (lK b' (iT a' b') (decide (1<s))) v1) (λs=>2-s) 0 a88 ?_ ?_
      ·exact⟨bm _,Pr,(S5.ax s8).ek a18 (λj hj=>by rcases hj with rfl|rfl;exact Sb;exact Sc),s8.aB Kv,va1,vb1,s8.aB (S5.aB SU),(Ks.le S5.le).le s8.le,s8.aB (S5.aB YD),(Ku.le S5.le).le s8.le⟩
      ·rintro k w6 ⟨BF,kZ,S6,GH,v0,v1,Ia,qC,Ib,qH⟩;have hmy:=HF a' b' k;refine T.aP (cy G G G (ad (aN ?_)));refine bF G (λc9=>?_) (λc9=>?_)
       ·refine aR (aN (aY (T.aP ?_)));obtain⟨pk,lk,vk,hpk,mh,Ps,Hn,hkM,hkN,TT,ku⟩:=Bu (show k<2 by omega) fq YC Mw KP wU Ia qC Ib qH;have hl3:([ba,bb]:List Nat).length=2:=rfl;refine cD Tryz.underlying314 Sa G G G (kZ) cf a42 (λMn Et yY yC=>?_);obtain rfl:pk=Et:=dJ (aK (yY.symm.trans (by rw[aw];exact hpk)));refine bP Tryz.underlying313 G G G G G yC cf (λv10 sh=>?_);obtain rfl:=nw.1 sh;refine Rg.bg G G (aN ?_);by_cases tU:((lk.length:Nat):Int)>0
        ·obtain⟨⟨d,s⟩,tl,rfl⟩:∃p tl,lk=p::tl:=by
          cases lk with
          |nil=>simp at tU
          |cons p tl=>exact⟨p,tl,rfl⟩
         apply T.draw (M:=M2) mixed [cj.eq _,cj.eq _,cj.eq vk,cj.eq _,cj.eq _,cj.eq (.bool true),cj.eq _,cj.eq _,cj.eq vk,cj.ptr (RT.fo) (d,s),cj.ptr (RT.int .i64) d,cj.eq (.int .i64 d),cj.eq _,cj.eq (.int .i64 (iT a' b')),cj.eq _,cj.eq _]
         ·rfl
         ·refine aI ?_ ?_
          ·intro wD E sD;refine ab G G ?_;exact a00
          refine aI ?_ ?_
          ·intro wD E sD;refine aq (aW G ⟨_,G⟩ G ?_);exact a00
          refine aI ?_ ?_
          ·intro wD E sD;refine aq (aG aS G G G (bY sD Ub) G ?_);exact a00
          refine aI ?_ ?_
          ·intro wD E sD;refine aq (bN aS G (Hn.le sD.le) G ?_);exact a00
          refine aI ?_ ?_
          ·intro wD E sD;refine aq (fU G G G ?_);exact a00
          refine aI ?_ ?_
          ·intro wD E sD;refine aq (ab G G ?_);refine ad ⟨G,G,_,G,?_,aV⟩;exact congrArg Value.bool (decide_eq_true tU)
          refine aI ?_ ?_
          ·intro wD E sD;refine aq (ah G G (ab G G ?_));exact a00
          refine aI ?_ ?_
          ·intro wD E sD;refine aq (aq (ah G G (aW G ⟨_,G⟩ G ?_)));exact a00
          refine aI ?_ ?_
          ·intro wD E sD;refine aq (aq (ah G G (aG aS G G G (bY sD Ub) G ?_)));exact a00
          refine aI ?_ ?_
          ·intro wD E sD;refine aq (aq (ah G G ?_));refine cD aS nc G G G (Hn.le sD.le) cf hV (λui ai Kw Pq=>?_);obtain rfl:(d,s)=ai:=dJ (aK (Kw.symm.trans rfl));exact ai5
          refine aI ?_ ?_
          ·intro wD E sD;intro v9 JB;refine aq (ah G G ?_);refine ar (A:=RT.fo) (B:=RT.int .i64) dB G G I3 q0 (Yl) G G q0 (show cR (RT.fo) M2 wD v9 (d,s)from JB) cf (λuf tH=>?_);exact a69
          refine aI ?_ ?_
          ·intro wD E sD;intro v10 sh;refine aq (ah G G ?_);refine b4 ak G G (show cR (RT.int .i64) M2 wD v10 d from sh) cf (λkO=>?_);exact a00
          refine aI ?_ ?_
          ·intro wD E sD;refine aq (ah G G (aT db G G I3 q0 G G ?_));exact a00
          refine aI ?_ ?_
          ·intro wD E sD;refine aq (aq (ah G G (aG ak G G G (bY sD Ub) G ?_)));exact a00
          refine aI ?_ ?_
          ·intro wD E sD;refine aq (aq (aq (ah G G (ic G G G ?_))));exact a00
          refine aI ?_ ?_
          ·intro wD E sD;refine aq (aq (aU G G G ?_));exact a00
          exact zV
         ·intro Eg dU;refine aq (aq (aq (aq (aq (aq (aq (aq (aq ?_))))))));intro acD XH;intro NX xq;refine aq (aq (aq (aq (aq ?_))));have Cm:=dU.aB GH;have E6:=dU.aB Ps;refine bF G (λJm=>?_) (λJm=>?_)
          ·refine T.aP (aT db G G I3 q0 G G (aG ak G G G Cm G (bh (v':= .int .i64 (qU a' b' k)) G (bB G G G hV (aT db G G I3 q0 G G ?_)))));refine cg (M:=M2) I3 G G Cm G G Sf (λMe GI mF=>?_);change Me.heap[bx]? =some (.cells #[.int .i64 (iT a' b'),.int .i64 (qU a' b' k+1),.int .i64 (qV a' b' k)] 261 (0,0))at GI;have Pt:=mF.bR E6 TT;have E7:=(Hn.le dU.le).le mF.le;refine ad (aN ?_);apply T.qS (M:=M2) mixed [] [cj.eq _,cj.eq (.int .i64 (qV a' b' k)),cj.eq _,cj.eq _,cj.eq vk,cj.ptr (RT.fo) (d,s),cj.ptr (RT.int .i64) s,cj.eq (.int .i64 s),cj.eq _] 9
           ·rfl
           ·rfl
           ·rfl
           ·rfl
           ·rfl
           ·exact a86
           ·exact qA
           ·refine ay ?_ ?_
            ·intro wD E sD;refine aT db G G I3 q0 G G ?_;exact a00
            refine ay ?_ ?_
            ·intro wD E sD;refine aq (aG ak G G G (bY sD Ub) G ?_);exact a00
            refine ay ?_ ?_
            ·intro wD E sD;refine ab G G ?_;exact a00
            refine ay ?_ ?_
            ·intro wD E sD;refine aq (aW G ⟨_,G⟩ G ?_);exact a00
            refine ay ?_ ?_
            ·intro wD E sD;refine aq (aG aS G G G (bY sD Ub) G ?_);exact a00
            refine ay ?_ ?_
            ·intro wD E sD;refine aq ?_;refine cD aS nc G G G (E7.le sD.le) cf hV (λui ai Kw Pq=>?_);obtain rfl:(d,s)=ai:=dJ (aK (Kw.symm.trans rfl));exact ai5
            refine ay ?_ ?_
            ·intro wD E sD;intro v5 pF;refine ar (A:=RT.fo) (B:=RT.int .i64) dB G G I3 q0 (fo1) G G q0 (show cR (RT.fo) M2 wD v5 (d,s)from pF) cf (λuf tH=>?_);exact a69
            refine ay ?_ ?_
            ·intro wD E sD;intro v6 p9;refine b4 ak G G (show cR (RT.int .i64) M2 wD v6 s from p9) cf (λkO=>?_);exact a00
            refine ay ?_ ?_
            ·intro wD E sD;refine aq (aq (Rg.xF G G G ?_));exact a00
            exact jS
           ·intro Mq iN;refine aq (aq (aq (aq (aq ?_))));intro HT uO;intro Ty yS;refine aq (aq (aT db G G I3 q0 G G ?_));have NZ:=iN.aB GI;refine cg (M:=M2) I3 G G NZ G G Sf (λMF Pu jn=>?_);change MF.heap[bx]? =some (.cells #[.int .i64 (iT a' b'),.int .i64 (qU a' b' k+1),.int .i64 (IntKind.i64.wrap (qV a' b' k+s))] 261 (0,0))at Pu;have E8:=jn.bR (iN.aB Pt) TT;have Pv:=(E7.le iN.le).le jn.le;refine ad (aL (ab G G (ab G G (aW G ⟨_,G⟩ G (aG aS G G G E8 G (bh (v':=vk) G ?_))))));refine Rg.nV (A:=RT.fo) (hn:=by decide) aS nc rfl rfl rfl Pv (by simp only[cz];omega) (λKS si=>?_);replace si:((RT.fo).sl).V M2 MF tl KS:=si;refine aW G ⟨_,G⟩ G ?_;refine cg (M:=M2) KT G G E8 G (jl si G G) hkM (λF7 tV oy=>?_);change F7.heap[pk]? =some (.cells #[KS] 36 (0,0))at tV;have Ho:=oy.bR Pu (λh=>TT h.symm);have sw:hit ((d,s)::tl) (iT a' b')=true:=uF Jm;have XI:fJ ((d,s)::tl) (iT a' b')=tl:=by unfold fJ;rw[if_pos sw];rfl
            have SK:=((((S6.ax dU).ch mF (λj hj=>by subst hj;omega)).ax iN).ch jn (λj hj=>by subst hj;omega)).trans oy (λj _ hj=>by subst hj;exact hkN);have Kx:=aX (aX (aX (aX dU.le mF.le) iN.le) jn.le) oy.le;refine ad (aL (bB G G G hV (ab G G (ad ?_))));refine⟨G,k+1,a88,?_,?_⟩
            ·first
             |exact⟨by omega,kZ.le Kx,SK,by rw[iz mh,iA mh];unfold nz ny;rw[if_pos sw,if_pos sw];exact Ho,ku F7 KS (λq o h1 h2 h3=>oy.bR (jn.bR (iN.aB (mF.bR (dU.aB h3) h2)) h2) h1) (λl v h=>h.le Kx) tV ad3⟩
             |exact⟨by omega,kZ.le dU.le,S6.ax dU,by rw[iz mh,iA mh];unfold nz ny;rw[if_neg a99,if_neg a99];exact dU.aB GH,ku _ vk (λq o h1 h2 h3=>dU.aB h3) (λl v h=>h.le dU.le) (dU.aB Ps) a52⟩
            ·show 2-(k+1)<2-k;omega
          ·have Aw:hit ((d,s)::tl) (iT a' b')=false:=decide_eq_false Jm;refine aR (aL (bB G G G hV (ab G G (ad ?_))));refine⟨G,k+1,a88,?_,?_⟩
           ·first
            |exact⟨by omega,kZ.le Kx,SK,by rw[iz mh,iA mh];unfold nz ny;rw[if_pos sw,if_pos sw];exact Ho,ku F7 KS (λq o h1 h2 h3=>oy.bR (jn.bR (iN.aB (mF.bR (dU.aB h3) h2)) h2) h1) (λl v h=>h.le Kx) tV ad3⟩
            |exact⟨by omega,kZ.le dU.le,S6.ax dU,by rw[iz mh,iA mh];unfold nz ny;rw[if_neg a99,if_neg a99];exact dU.aB GH,ku _ vk (λq o h1 h2 h3=>dU.aB h3) (λl v h=>h.le dU.le) (dU.aB Ps) a52⟩
           ·show 2-(k+1)<2-k;omega
        ·have Aw:hit lk (iT a' b')=false:=by
          cases lk with
          |nil=>rfl
          |cons p tl=>simp at tU
         apply T.draw (M:=M2) mixed [cj.eq _,cj.eq _,cj.eq vk,cj.eq _,cj.eq _,cj.eq (.bool false),cj.eq undef,cj.eq undef,cj.eq undef,cj.eq undef,cj.eq undef,cj.eq undef,cj.eq undef,cj.eq undef,cj.eq undef,cj.eq _]
         ·rfl
         ·refine aI ?_ ?_
          ·intro wD E sD;refine ab G G ?_;exact a00
          refine aI ?_ ?_
          ·intro wD E sD;refine aq (aW G ⟨_,G⟩ G ?_);exact a00
          refine aI ?_ ?_
          ·intro wD E sD;refine aq (aG aS G G G (bY sD Ub) G ?_);exact a00
          refine aI ?_ ?_
          ·intro wD E sD;refine aq (bN aS G (Hn.le sD.le) G ?_);exact a00
          refine aI ?_ ?_
          ·intro wD E sD;refine aq (fU G G G ?_);exact a00
          refine aI ?_ ?_
          ·intro wD E sD;refine aq (ab G G ?_);refine ad ⟨G,G,_,G,?_,aV⟩;exact congrArg Value.bool (decide_eq_false tU)
          refine aI ?_ ?_
          ·intro wD E sD;refine aq ?_;exact a10
          refine aI ?_ ?_
          ·intro wD E sD;refine aq (aq ?_);exact a10
          refine aI ?_ ?_
          ·intro wD E sD;refine aq (aq ?_);exact a10
          refine aI ?_ ?_
          ·intro wD E sD;refine aq (aq ?_);exact a10
          refine aI ?_ ?_
          ·intro wD E sD;refine aq (aq ?_);exact a10
          refine aI ?_ ?_
          ·intro wD E sD;refine aq (aq ?_);exact a10
          refine aI ?_ ?_
          ·intro wD E sD;refine aq ?_;exact a10
          refine aI ?_ ?_
          ·intro wD E sD;refine aq (aq ?_);exact a10
          refine aI ?_ ?_
          ·intro wD E sD;refine aq (aq (aq ?_));exact a10
          refine aI ?_ ?_
          ·intro wD E sD;refine aq (aq (az G G G ?_));exact a00
          exact zV
         ·intro Eg dU;refine aq (aq (aq (aq (aq (aq (aq (aq (aq (aq (aq (aq ?_)))))))))));refine aq (aq (aq (aq ?_)));have Cm:=dU.aB GH;have E6:=dU.aB Ps;refine iS G (aR (aL (bB G G G hV (ab G G (ad ?_)))));refine⟨G,k+1,a88,?_,?_⟩
          ·first
           |exact⟨by omega,kZ.le Kx,SK,by rw[iz mh,iA mh];unfold nz ny;rw[if_pos sw,if_pos sw];exact Ho,ku F7 KS (λq o h1 h2 h3=>oy.bR (jn.bR (iN.aB (mF.bR (dU.aB h3) h2)) h2) h1) (λl v h=>h.le Kx) tV ad3⟩
           |exact⟨by omega,kZ.le dU.le,S6.ax dU,by rw[iz mh,iA mh];unfold nz ny;rw[if_neg a99,if_neg a99];exact dU.aB GH,ku _ vk (λq o h1 h2 h3=>dU.aB h3) (λl v h=>h.le dU.le) (dU.aB Ps) a52⟩
          ·show 2-(k+1)<2-k;omega
       ·refine cQ (T.aP (ab G G ?_));obtain rfl:k=2:=by omega
        refine eC (vs:=[.int .i64 (iT a' b'),.int .i64 (qU a' b' 2),.int .i64 (qV a' b' 2)]) db G zA G G G GH ?_;have hJ7:=kC _ _ _ _ _ _ hJ S6;refine Rg.yield G (vs:=[.agg #[.int .i64 (iT a' b'),.int .i64 (qU a' b' 2),.int .i64 (qV a' b' 2)]]) G G (hy a' b' M2 _ hJ7 P7 P8 Pm) (λr9 w9 h9=>?_);obtain⟨c,rfl,hc5,RU⟩:=h9;refine iv G G (bh (v':= .bool (decide (¬c=true))) (by simp) (ad ?_));refine bF G (λFt=>?_) (λFt=>?_)
        ·refine aJ ?_;exact CQ G (.inr (RU (by simpa using Ft)))
        ·obtain⟨M9,N9,hJ9,s9,hN9⟩:=hc5 (cr.1 Ft);refine aR ?_;refine⟨G,(fJ a' (iT a' b'),fJ b' (iT a' b')),a09,?_,?_⟩
         ·exact⟨P7.rest _,P8.rest _,v0,v1,M9,hJ9,s9.bR Ia (λh=>(hN9 _ h).1 rfl),s9.bR Ib (λh=>(hN9 _ h).2 rfl),qC.le s9.le,qH.le s9.le⟩
         ·exact qn P7 P8 Pm
   ·refine cQ ?_
    have qB:a'=[]:=by
     cases a' with
     |nil=>rfl
     |cons p tl=>simp at Sd
    have CF:b'=[]:=by
     cases b' with
     |nil=>rfl
     |cons p tl=>simp at c0
    subst qB;subst CF;change wI Tryz.prog Tryz.f200 (λ_ w'=>(∃M',J [] [] M' w')\/Jx w') .normal _ [] _;exact jW G (.inl ⟨_,hJ⟩)
end Go.K
namespace Go.K
open Go.Proofs
namespace TKOf
theorem KT:TI Tryz.prog 36 (.slice none 0 0) 1 24:=by unfold TI;kernel_rfl
theorem nc:TI Tryz.prog 45 (.agg #[(.int .i64 0),(.int .i64 0)]) 2 16:=by unfold TI;kernel_rfl
theorem zA:TI Tryz.prog 261 (.agg #[(.int .i64 0),(.int .i64 0),(.int .i64 0)]) 3 24:=by unfold TI;kernel_rfl
theorem Iy:placesOf Tryz.prog 45=[(0,1),(1,1)].map some:=by kernel_rfl
theorem XJ:Enters Tryz.prog 102:=enters Tryz.func102 rfl q0
theorem akw:Enters Tryz.prog 158:=enters Tryz.func158 rfl q0
theorem akx:Enters Tryz.prog 200:=enters Tryz.func200 rfl q0
end TKOf
open TKOf
set_option maxRecDepth 10000
structure Ax (M:aH) (w0:World) (least:Int) (b5 bo ba bb D:Nat) (st:Obj) (vo:Value) (xs:List Fo) (M1:aH) (w:World):Prop where
 lt:Lt M1 w
 S:Step M w0 M1 w aE
 mo:M1 bo
 ma:M1 ba
 mb:M1 bb
 md:M1 D
 mr:M1 (D+1)
 h5:w.heap[b5]? =some (.cells #[.int .i64 least] 3 (0,0))
 o:w.heap[bo]? =some (.cells #[vo] 36 (0,0))
 d:w.heap[D]? =some (.deferred (some []))
 r:w.heap[D+1]? =some st
 ne:(b5<D/\bo<D/\ba<D/\bb<D)/\(bo≠b5/\bo≠ba/\bo≠bb/\b5≠ba/\b5≠bb)/\(w0.heap.size<=bo/\w0.heap.size<=ba/\w0.heap.size<=bb/\w0.heap.size<=D)
 hk:Own RT.fo 45 M1 w (D+2) vo xs
section
variable {M M1 M2 N:aH} {w0 w w':World} {least:Int} {b5 bo ba bb D:Nat} {st st':Obj} {vo:Value} {xs:List Fo}
theorem Ax.step (h:Ax M w0 least b5 bo ba bb D st vo xs M1 w) (s:Step M1 w M2 w' N) (hN:∀k,N k->k=ba\/k=bb):Ax M w0 least b5 bo ba bb D st vo xs M2 w':=by
 obtain⟨⟨e1,e2,e3,e4⟩,⟨e5,e6,e7,e8,e9⟩,GG,JV,Ih,NV⟩:=h.ne;have mm:=λ{b:Nat} (hm:M1 b)=>(s.mem b (h.lt b hm)).2 hm
 have no:∀b,b≠ba->b≠bb->¬N b:=λb h1 h2 hn=>by rcases hN b hn with h|h;exact h1 h;exact h2 h
 exact⟨s.lt h.lt,h.S.ch s (λb hb=>by rcases hN b hb with rfl|rfl<;>assumption),mm h.mo,mm h.ma,mm h.mb,mm h.md,mm h.mr,s.bR h.h5 (no _ e8 e9),s.bR h.o (no _ e6 e7),s.bR h.d (no _ hV hV),s.bR h.r (no _ hV hV),h.ne,
  h.hk.step s (λk hk hh=>by have:=(h.hk.base k hk).1;rcases hN k hh with h|h<;>omega)⟩
theorem Ax.pq (h:Ax M w0 least b5 bo ba bb D st vo xs M1 w):Ax M w0 least b5 bo ba bb D st' vo xs M1 (w.putObj (D+1) st')/\Step M1 w M1 (w.putObj (D+1) st') (λk=>k=D+1):=by
 obtain⟨⟨e1,e2,e3,e4⟩,⟨e5,e6,e7,e8,e9⟩,GG,JV,Ih,NV⟩:=h.ne;have s:Step M1 w M1 (w.putObj (D+1) st') (λk=>k=D+1):=fY h.mr;exact⟨⟨s.lt h.lt,h.S.ch s (λb hb=>by omega),h.mo,h.ma,h.mb,h.md,h.mr,s.bR h.h5 hV,s.bR h.o hV,s.bR h.d hV,World.putObj_heap_same (ae h.r),h.ne,h.hk.step s (λk o8 hh=>by have:=(h.hk.base k o8).1;omega)⟩,s⟩
theorem Ax.grow {XK:Value} {xs':List Fo} (h:Ax M w0 least b5 bo ba bb D st vo xs M1 w) (s:Step M1 w M2 w' (λk=>vo.ownBlock=some k)) (hk:Own RT.fo 45 M2 w' (D+2) XK xs'):
  (w'.heap[bo]? =some (.cells #[vo] 36 (0,0))/\M2 bo)/\∀{w2:World},Step M2 w' M2 w2 (λk=>k=bo)->w2.heap[bo]? =some (.cells #[XK] 36 (0,0))->Ax M w0 least b5 bo ba bb D st XK xs' M2 w2:=by
 obtain⟨⟨e1,e2,e3,e4⟩,⟨e5,e6,e7,e8,e9⟩,GG,JV,Ih,NV⟩:=h.ne;have hn:∀k,vo.ownBlock=some k->D+2<=k:=λk hk=>(h.hk.base k hk).1
 have mm:=λ{b:Nat} (hm:M1 b)=>(s.mem b (h.lt b hm)).2 hm
 refine ⟨⟨s.bR h.o (λhh=>by have:=hn _ hh;omega),mm h.mo⟩,λ{w2} s2 hx=> ?_⟩;have S':=h.S.ch s (λk hk=>by have:=hn k hk;omega)
 exact⟨s2.lt (s.lt h.lt),S'.ch s2 (λk hk=>by subst hk;exact GG),mm h.mo,mm h.ma,mm h.mb,mm h.md,mm h.mr,s2.bR (s.bR h.h5 (λhh=>by have:=hn _ hh;omega)) (λhh=>e5 hh.symm),hx,s2.bR (s.bR h.d (λhh=>by have:=hn _ hh;omega)) hV,s2.bR (s.bR h.r (λhh=>by have:=hn _ hh;omega)) hV,h.ne,
  hk.step s2 (λk o8 hh=>by have:=(hk.base k o8).1;omega)⟩
end
set_option maxHeartbeats 2000000 in
theorem IA {M:aH} {w0:World} {va vb:Value} {a b:List Fo} {least:Int} (hM:Lt M w0) (mY:((RT.fo).sl).V M w0 a va) (KO:((RT.fo).sl).V M w0 b vb) (oa:qW a) (ob:qW b) (hl:a.length+b.length<=1099511627776):
  Spec Tryz.prog 102 #[va,vb,.int .i64 least] w0 (λv' w'=>∃M',Lt M' w'∧Step M w0 M' w' aE/\Own RT.fo 45 M' w' w0.heap.size v' (CN least a b)):=by
 refine sU (args:=[_,_,_]) (fn:=Tryz.f102) Tryz.func102 G (n:=26) Tryz.ntmps102 (T.aP ?_);refine o2 M G G (λb5 w1 z1 z1' g5 s1=>?_);change w1.heap[b5]? =some (.cells #[.int .i64 least] _ _)at g5;refine Rg.bg G G (T.aP ?_);refine ec (ins M b5) KT G (λbo w2 z2 z2' go s2=>?_);change w2.heap[bo]? =some (.cells #[.slice none 0 0] _ _)at go;replace g5:=s2.aB g5;have S2:=s1.ax s2;have HM:=S2.lt hM;have y1:=s1.size;have y2:=s2.size;refine ad (aN (T.aP (ab G G (ab G G ?_))));refine aQ G G akw (Kr HM (mY.le S2.le) (KO.le S2.le)) (λr3 w3 h=>?_);obtain⟨ba,bb,rfl,gA,gB,fq,za,zb,s3⟩:=h;replace g5:=s3.aB g5;replace go:=s3.aB go;have S3:=S2.ax s3;have NU:=S3.lt hM;have xa:=ae gA;have xb:=ae gB;have x5:=ae g5;have xo:=ae go;have y3:=s3.size;obtain⟨Mb,wU⟩:∃Mb,Mb=ins (ins (ins (ins M b5) bo) ba) bb:=⟨_,rfl⟩;have mo:Mb bo:=by rw[wU];exact .inr (.inr (.inl G))
 have ma:Mb ba:=by rw[wU];exact .inr (.inl G)
 have mb:Mb bb:=by rw[wU];exact .inl G
 rw[<-wU]at S3 NU s3;have Pn:=(mY.le S2.le).le s3.le;have Pp:=(KO.le S2.le).le s3.le;refine ad (aY ?_);refine T.range (gf:=200) (lb:= #[.pointer (some ⟨ba,0,none⟩),.pointer (some ⟨bb,0,none⟩)]) G akx (λrec sO=>?_);obtain⟨D,hD⟩:∃D,D=w3.heap.size:=⟨_,rfl⟩;rw[<-hD]at sO ⊢;have sA:Step Mb w3 (ins Mb w3.heap.size) (w3.alloc (.deferred (some []))) aE:=(dT _ w3 _).own (br _) (by simp);have sB:Step (ins Mb w3.heap.size) (w3.alloc (.deferred (some []))) (ins (ins Mb w3.heap.size) (w3.heap.size+1)) ((w3.alloc (.deferred (some []))).alloc (.loop (rec .ready none))) aE:=(dT _ _ _).own (by simp) (by simp);have sC:=sA.ax sB;have hDd:(w3.alloc (.deferred (some []))).heap[w3.heap.size]? =some (.deferred (some [])):=dp w3 _;have hR:((w3.alloc (.deferred (some []))).alloc (.loop (rec .ready none))).heap[w3.heap.size+1]? =some (.loop (rec .ready none)):=by have:=dp (w3.alloc (.deferred (some []))) (.loop (rec .ready none));rwa [World.size_alloc]at this
 have y0:=S2.size;refine Spec.mono (Hl (M:=ins (ins Mb w3.heap.size) (w3.heap.size+1)) (va:=va) (vb:=vb) (J:=(λa' b' M1 w=>∃vo xs,Ax M w0 least b5 bo ba bb D (.loop (rec .ready none)) vo xs M1 w/\xs++CN least a' b'=CN least a b)) (Jx:=λ_=>False) fq (λa' b' M1 w ⟨vo,xs,h,_⟩=>⟨h.lt,h.ma,h.mb⟩) (λa' b' M1 w M2 w' ⟨vo,xs,h,hx⟩ s=>⟨vo,xs,h.step s (λ_ h=>h),hx⟩) (λa' b' M1 wr hJ P7 P8 Uh=>?_) (sC.aB gA) (sC.aB gB) (Pn.le sC.le) (Pp.le sC.le) oa ob ⟨.slice none 0 0,[],?_,G⟩) (λ_ w4 h4=>?_)
 rotate_left
 ·rw[hD];exact⟨sC.lt NU,S3.ax sC,.inr (.inr mo),.inr (.inr ma),.inr (.inr mb),.inr (.inl G),.inl G,sC.aB g5,sC.aB go,sB.aB hDd,hR,by omega,eG _ _ _ _ _⟩
 rotate_left
 ·obtain⟨vo,xs,h,hx⟩:=hJ;refine ql (ps:=[12]) (vs:=[.agg #[.int .i64 (iT a' b'),.int .i64 (qU a' b' 2),.int .i64 (qV a' b' 2)]]) sO h.r G q0 ?_;have xf:=congrArg List.length hx;have Sg:=xi least (a.length+b.length) a b;change(CN least a b).length<=_ at Sg;rw[bG]at xf;have Sh:=tc (least:=least) P7 P8 Uh;refine aL ?_;refine ec M1 zA G (λb8 w4 z8 z8' g8 s4=>?_);obtain⟨M2,wZ⟩:∃M2,M2=ins M1 b8:=⟨_,rfl⟩;have hm8:M2 b8:=by rw[wZ];exact .inl G
  rw[<-wZ]at s4;refine cM (M:=M2) (vs:=[.int .i64 (iT a' b'),.int .i64 (qU a' b' 2),.int .i64 (qV a' b' 2)]) zA G G ae5 rfl rfl g8 hm8 (λw5 g8' s5=>?_);change w5.heap[b8]? =some (.cells #[.int .i64 (iT a' b'),.int .i64 (qU a' b' 2),.int .i64 (qV a' b' 2)] _ _)at g8';have S5:=s4.ch s5 (λk hk=>by subst hk;exact z8);have h3:=h.step S5 (λk hk=>hk.elim);refine ad (⟨G,h3.r,?_⟩);obtain⟨h4,sR⟩:=h3.pq (st':= .loop (rec .busy none));have hD8:b8≠D+1:=by have:=ae h.r;omega
  have g8x:=sR.bR g8' hD8;generalize w5.putObj (D+1) _=wB at h4 g8x sR ⊢;refine aY (T.aP (aT db G G I3 q0 G G (aG ak G G G g8x G (bh (v':= .int .i64 (qU a' b' 2)) G (aG ak G G G h4.h5 G (bh (v':= .int .i64 least) G (ed G G G (ad ?_))))))));refine bF G (λc4=>?_) (λc4=>?_)
  ·refine aL (aG aS G G G h4.o G (bh (v':=vo) G (aT db G G I3 q0 G G (aG ak G G G g8x G (bh (v':= .int .i64 (iT a' b')) G (aT db G G I3 q0 rfl rfl (aG ak rfl rfl rfl g8x rfl (bh (v':= .int .i64 (qV a' b' 2)) rfl (dg (places:=[(0,1),(1,1)]) dB nc Iy rfl ⟨_,_,rfl,rfl,_,_,rfl,rfl,rfl⟩ (out:=[_,_]) ⟨0,[_],rfl,rfl,by simp[Value.cells],1,[_],rfl,rfl,by simp[Value.cells],rfl⟩ ?_)))))))));refine fp (A:=RT.fo) (hn:=by decide) (M:=M2) aS nc q0 G G h4.lt (FK (by have:=QD P7 P8;omega) (QE a' b' 2)) (.inl rfl) (λu6 w6 kZ s6=>?_);have h6:=h4.step s6 (λk hk=>hk.elim);refine dH (M:=M2) (base:=D+2) aS nc rfl rfl rfl rfl (h6.hk) kZ cf a08 a08 (by have:=ae h6.r;omega) (λv7 M3 w7 sz s7=>?_);obtain⟨⟨go7,mo7⟩,Uw⟩:=h6.grow s7 sz;refine cg (M:=M3) KT rfl rfl go7 rfl (by obtain⟨_,_,he,_⟩:=sz.isSlice;rw[he];rfl) mo7 (λw8 go8 s8=>?_);have h8:=Uw s8 go8;refine ad ?_
   first
   |(obtain⟨h9,sE⟩:=h8.pq (st':= .loop (rec .ready none))
     obtain⟨⟨e1,e2,e3,e4⟩,⟨e5,e6,e7,GG,JV⟩,Ih⟩:=h8.ne;exact⟨h8.r,true,rfl,(λ_=>⟨M3,λk=>(k=D+1\/vo.ownBlock=some k\/k=bo)/\M1 k,⟨v7,_,h9,by rw[<-hx,Sh,if_pos c4,l6]⟩,(((((S5.ek a18 (λk hk=>hk.2)).trans sR (λk _ hk=>by subst hk;exact⟨.inl G,h.mr⟩)).ax s6).trans s7 (λk pD hk=>⟨.inr (.inl hk),h.hk.mut_ k hk⟩)).trans s8 (λk _ hk=>by subst hk;exact⟨.inr (.inr rfl),h.mo⟩)).trans sE (λk _ hk=>by subst hk;exact⟨.inl rfl,h.mr⟩),λk hk=>by rcases hk.1 with h1|h1|h1;omega;(have:=(h.hk.base k h1).1;omega);(subst h1;exact⟨e6,e7⟩)⟩),λh=>by(cases h)⟩)
   |(obtain⟨h9,sE⟩:=h4.pq (st':= .loop (rec .ready none))
     obtain⟨⟨e1,e2,e3,e4⟩,⟨e5,e6,e7,GG,JV⟩,Ih⟩:=h4.ne;exact⟨h4.r,true,rfl,(λ_=>⟨M2,λk=>k=D+1/\M1 k,⟨vo,xs,h9,by rw[<-hx,Sh,if_neg c4,iH]⟩,((S5.ek a18 (λk hk=>hk.2)).trans sR (λk _ hk=>by subst hk;exact⟨rfl,h.mr⟩)).trans sE (λk _ hk=>by subst hk;exact⟨rfl,h.mr⟩),λk hk=>by omega⟩),λh=>by(cases h)⟩)
  ·refine aR ?_
   first
   |(obtain⟨h9,sE⟩:=h8.pq (st':= .loop (rec .ready none))
     obtain⟨⟨e1,e2,e3,e4⟩,⟨e5,e6,e7,GG,JV⟩,Ih⟩:=h8.ne;exact⟨h8.r,true,rfl,(λ_=>⟨M3,λk=>(k=D+1\/vo.ownBlock=some k\/k=bo)/\M1 k,⟨v7,_,h9,by rw[<-hx,Sh,if_pos c4,l6]⟩,(((((S5.ek a18 (λk hk=>hk.2)).trans sR (λk _ hk=>by subst hk;exact⟨.inl G,h.mr⟩)).ax s6).trans s7 (λk pD hk=>⟨.inr (.inl hk),h.hk.mut_ k hk⟩)).trans s8 (λk _ hk=>by subst hk;exact⟨.inr (.inr rfl),h.mo⟩)).trans sE (λk _ hk=>by subst hk;exact⟨.inl rfl,h.mr⟩),λk hk=>by rcases hk.1 with h1|h1|h1;omega;(have:=(h.hk.base k h1).1;omega);(subst h1;exact⟨e6,e7⟩)⟩),λh=>by(cases h)⟩)
   |(obtain⟨h9,sE⟩:=h4.pq (st':= .loop (rec .ready none))
     obtain⟨⟨e1,e2,e3,e4⟩,⟨e5,e6,e7,GG,JV⟩,Ih⟩:=h4.ne;exact⟨h4.r,true,rfl,(λ_=>⟨M2,λk=>k=D+1/\M1 k,⟨vo,xs,h9,by rw[<-hx,Sh,if_neg c4,iH]⟩,((S5.ek a18 (λk hk=>hk.2)).trans sR (λk _ hk=>by subst hk;exact⟨rfl,h.mr⟩)).trans sE (λk _ hk=>by subst hk;exact⟨rfl,h.mr⟩),λk hk=>by omega⟩),λh=>by(cases h)⟩)
 ·obtain⟨Mz,vo,xs,h,hx⟩:=h4.resolve_right (λh=>h);left;rw[QF,fz]at hx;obtain⟨h5,_⟩:=h.pq (st':= .loop (rec .exhausted none));refine ⟨h.r,?_⟩;generalize w4.putObj (D+1) _=wE at h5 ⊢;have Sg:=xi least (a.length+b.length) a b;change(CN least a b).length<=_ at Sg;refine T.aP (aG aS G G G h5.o G (bh (v':=vo) G (Rg.bg G G (aJ ?_))));obtain⟨⟨e1,e2,e3,e4⟩,e5,GG,JV,Ih,NV⟩:=h5.ne;have sZ:Step Mz wE Mz (wE.putObj D (.deferred none)) (λk=>k=D):=fY h5.md;have SZ:=h5.S.ch sZ (λk hk=>by subst hk;exact NV);rw[<-hx];rw[<-hx]at Sg;exact FF G G h5.d ⟨_,SZ.lt hM,SZ,(h5.hk.step sZ (λk hk hh=>by have:=(h5.hk.base k hk).1;omega)).iJ hV⟩
theorem IB {M:aH} {w0:World} {va vb:Value} {a b:List Fo} (hM:Lt M w0) (mY:((RT.fo).sl).V M w0 a va) (KO:((RT.fo).sl).V M w0 b vb) (oa:qW a) (ob:qW b) (hl:a.length+b.length<=1099511627776):
  Spec Tryz.prog 53 #[va,vb] w0 (λv' w'=>∃M',Lt M' w'∧Step M w0 M' w' aE/\Own RT.fo 45 M' w' w0.heap.size v' (CN 2 a b)):=by
 refine a8 (args:=[_,_]) (fn:=Tryz.f53) Tryz.func53 G (n:=8) Tryz.ntmps53 (T.aP (Rg.bg G G (T.aP (ab G G (ab G G ?_)))));refine aQ G G XJ (IA hM mY KO oa ob hl) (λr1 w1 h=>?_);obtain⟨M1,h1,s1,ho⟩:=h;refine Rg.bg G G (aJ ?_);exact aM G G ⟨M1,h1,s1,ho⟩
theorem Pw {M:aH} {w0:World} {va vb:Value} {a b:List Fo} (hM:Lt M w0) (mY:((RT.fo).sl).V M w0 a va) (KO:((RT.fo).sl).V M w0 b vb) (oa:qW a) (ob:qW b) (hl:a.length+b.length<=1099511627776):Spec Tryz.prog 53 #[va,vb] w0 (λv' w'=>((RT.fo).sl).V M w' (CN 2 a b) v'∧Step M w0 M w' aE):=
 (IB hM mY KO oa ob hl).mono λ_ w ⟨M',h1,h2,h3⟩=>⟨h3.close hM h2 (du (xi _ (a.length+b.length) a b) hV),h2.back⟩
end Go.K

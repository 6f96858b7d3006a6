/- What the law 'SnapFrees' needs of walks and plain Lean, part 5: nothing is assumed beyond the texts that it imports. -/
import Derived.KernelRfl
import Derived.Test.YtbobcaffmbaadaaGreatDoorProg
import Derived.Test.YtbobcaffmbaadaaGreatDoorZSnapFrees1
import Derived.Test.YtbobcaffmbaadaaGreatDoorZSnapFrees2
import Derived.Test.YtbobcaffmbaadaaGreatDoorZSnapFrees3
import Derived.Test.YtbobcaffmbaadaaGreatDoorZSnapFrees4
set_option linter.unusedVariables false
set_option linter.unusedSimpArgs false
namespace Go.K
open Go.Proofs
namespace TKSegB
theorem xH:TI Tryz.prog 196 (.slice none 0 0) 1 24:=by unfold TI;kernel_rfl
theorem Yw:Enters Tryz.prog 125:=enters Tryz.func125 rfl (by decide)
theorem Yx:Enters Tryz.prog 181:=enters Tryz.func181 rfl (by decide)
theorem Yy:Enters Tryz.prog 182:=enters Tryz.func182 rfl (by decide)
end TKSegB
open TKSegB
set_option maxRecDepth 10000
def EK (ns:List (List UInt8)) (k:List UInt8):Nat:=ns.countP fun x=>decide (x<k)
theorem Sc {ns:List (List UInt8)} (h:ya ns) {i j:Nat} {x y:List UInt8} (gy:i≤j) (hx:ns[i]? =some x) (hy:ns[j]? =some y): ¬y<x:=by
 rcases mS gy with rfl|h1
 ·rw[hx]at hy;cases hy;exact iG x
 ·exact iH (fP h hx hy h1)
theorem yj {ns:List (List UInt8)} (h:ya ns) {k:List UInt8}:(k∈ns→ns[EK ns k]? =some k)∧∀x,ns[EK ns k]? =some x→¬x<k:=by
 have key:∀{ns:List (List UInt8)},ya ns→(k∈ns→ns[EK ns k]? =some k)∧∀x,ns[EK ns k]? =some x→¬x<k:=by
  intro ns
  induction ns with
  |nil=>exact fun _=>⟨(fun h=>by cases h),fun x h=>by simp at h⟩
  |cons y ns ih=>
   intro h;have h':=eT.1 h;by_cases hy:y<k
   ·have e:EK (y::ns) k=EK ns k+1:=by unfold EK;rw[List.countP_cons_of_pos (by simpa using hy)]
    rw[e];simp only[List.getElem?_cons_succ];refine⟨fun hk=>(ih h'.2).1 ?_,(ih h'.2).2⟩;rcases cW.1 hk with rfl|hk
    ·exact absurd hy (iG _)
    ·exact hk
   ·have k7:∀x∈ns,¬x<k:=fun x hx dA=>hy (lD (h'.1 x hx) dA)
    have e:EK (y::ns) k=0:=by
     unfold EK;rw[List.countP_eq_zero];intro a ha;rcases cW.1 ha with rfl|ha
     ·simpa using hy
     ·simpa using k7 a ha
    rw[e];refine⟨fun hk=>?_,fun x hx=>by simp at hx;subst hx;exact hy⟩;rcases cW.1 hk with rfl|hk
    ·rfl
    ·exact absurd (h'.1 k hk) hy
 exact key h
def Yz (ns:List (List UInt8)) (k:List UInt8) (i:Nat):Bool:=match ns[i]? with|some x=> !decide (x<k)|none=>true
theorem ug {ns:List (List UInt8)} {k x:List UInt8} {i:Nat} (h:ns[i]? =some x):Yz ns k i= !decide (x<k):=by unfold Yz;rw[h]
theorem HA {ns:List (List UInt8)} (h:ya ns) {k:List UInt8}:ns[EK ns k]? =some k↔k∈ns:=⟨fun h=>aN h,(yj h).1⟩
theorem Ca {M:aD} {n:Nat} {g:FuncId} {cap:List Value} {good:Nat→Bool} (w0:World) (hg:Enters Tryz.prog g) (KV:∀i j,i≤j→j<n→good i=true→good j=true) (hn:n≤4611686018427387904) (ht:∀(i:Nat) w,i<n→Step M w0 M w aw→Spec Tryz.prog g ([.int .i64 (i:Int)]++cap:List Value).toArray w (fun v w'=>v= .bool (good i)∧Step M w M w' aw)):
  Spec Tryz.prog 181 #[.int .i64 (n:Int),.func (.func g) #[] cap.toArray] w0 (fun v w=>∃m:Nat,v= .int .i64 (m:Int)∧m≤n∧(∀i,i<m→good i=false)∧(∀i,m≤i→i<n→good i=true)∧Step M w0 M w aw):=by
 refine aR (args:=[_,_]) (fn:=Tryz.f181) Tryz.func181 rfl (n:=23) Tryz.ntmps181 (ai (ad (ah rfl rfl (ab (ai (ad (ah rfl rfl (ab (ai (a7 ?_))))))))));refine dd (σ:=Nat×Nat) (fun q=>[(0,.int .i64 (q.2:Int)),(1,.func (.func g) #[] cap.toArray),(5,.int .i64 (q.1:Int))]) (fun q w=>Step M w0 M w aw∧q.1≤q.2∧q.2≤n∧(∀i,i<q.1→good i=false)∧(∀i,q.2≤i→i<n→good i=true)) (fun q=>q.2-q.1) (0,n) (.cons rfl (.cons rfl (.cons rfl .nil))) ?_ ?_
 ·exact⟨al _ _,bG _,aZ _,fun i h=>absurd h (mM _),fun i h h'=>by omega⟩
 ·rintro⟨i,j⟩ w ⟨S,gy,hj,h1,h2⟩;dsimp only at gy hj h1 h2 ⊢;refine ai (ai (ad (ae rfl rfl (ae rfl rfl (bY rfl rfl rfl (ab ?_))))));refine bK rfl (fun c2=>?_) (fun c2=>?_)
  ·refine aT (a7 (ai (ad (ae rfl rfl (ae rfl rfl (ae rfl rfl (gj rfl rfl rfl (by omega) (Rg.uC rfl rfl rfl (by omega) (bA rfl rfl rfl (by omega) (br (v':= .int .i64 ((i+(j-i)/2:Nat):Int)) (congrArg _ (by omega)) (ah rfl rfl ?_)))))))))));refine ab (ai (ad (ae rfl rfl (ae rfl rfl ?_))));refine Rg.nY (first:=[]) (captured:=cap) (xs:=[.tmp 17]) rfl rfl rfl hg (vs:=[.int .i64 ((i+(j-i)/2:Nat):Int)]) (ht (i+(j-i)/2) _ (by omega) S) (fun r4 w4 hc=>?_);obtain⟨rfl,s4⟩:=hc;refine br (v':= .bool (decide (good (i+(j-i)/2)=true))) (by simp) ?_;replace S:=S.ax s4;refine ab ?_;refine bK rfl (fun c4=>?_) (fun c4=>?_)
   ·refine ad (ae rfl rfl (ah rfl rfl (ab ?_)));refine⟨rfl,(i,i+(j-i)/2),(.cons rfl (.cons rfl (.cons rfl .nil))),?_,?_⟩
    ·exact⟨S,by dsimp only;omega,by dsimp only;omega,h1,fun k hk Xr=>KV _ _ hk Xr c4⟩
    ·dsimp only;omega
   ·refine ad (ae rfl rfl (bA rfl rfl rfl (by omega) (ah rfl rfl (ab ?_))));refine⟨rfl,(i+(j-i)/2+1,j),(.cons rfl (.cons rfl (.cons rfl .nil))),?_,?_⟩
    ·exact⟨S,by dsimp only;omega,hj,fun k hk=>by
      cases h:good k with
      |false=>rfl
      |true=>exact absurd (KV k (i+(j-i)/2) (by dsimp only at hk;omega) (by omega) h) c4,h2⟩
    ·dsimp only;omega
  ·refine cB (ai (ad (ae rfl rfl (ah rfl rfl (ab (aI ?_))))));have e:i=j:=by omega
   subst e;exact aO rfl rfl ⟨i,rfl,hj,h1,h2,S⟩
theorem Aw {M:aD} {d:Di} {v0:Value} {i bd bk:Nat} {k x:List UInt8} (w0:World) (hd:cf RT.di M w0 v0 d) (gd:w0.heap[bd]? =some (.cells #[v0] 139 (0,0))) (gk:w0.heap[bk]? =some (.cells #[sv k] 9 (0,0))) (hx:d.1[i]? =some x):
  Spec Tryz.prog 182 #[.int .i64 (i:Int),.pointer (some ⟨bd,0,none⟩),.pointer (some ⟨bk,0,none⟩)] w0 (fun v w=>v= .bool (!decide (x<k))∧Step M w0 M w aw):=by
 have hM:True:=trivial;refine aR (args:=[_,_,_]) (fn:=Tryz.f182) Tryz.func182 rfl (n:=14) Tryz.ntmps182 (ai (ad (ah rfl rfl (ab (ai ?_)))));apply T.kO mixed rfl rfl;intro FL IL;have ko:=IL M;replace gd:=ko.aE gd;replace gk:=ko.aE gk;replace hd:=hd.le (by decide) ko.le;refine az Tryz.underlying139 rfl rfl rfl gd rfl (br (v':=v0) rfl ?_);refine ab ⟨rfl,rfl,rfl,?_⟩;refine aC rfl hd.jB rfl ?_;refine ab ⟨rfl,rfl,rfl,?_⟩;refine aM (M:=M) (A:=RT.di) (B:=RT.str.sl) oB rfl rfl CD (by decide) TS rfl rfl (by decide) hd (aq _ _) (fun pn N8=>?_);refine ab ⟨rfl,rfl,rfl,?_⟩;refine bZ (M:=M) aV rfl rfl rfl rfl rfl N8 (aq _ _) (fun vn rN=>?_);replace rN:(RT.str.sl).V M _ d.1 vn:=rN;refine ab ⟨rfl,rfl,rfl,?_⟩;refine ae rfl rfl ?_;refine ab ⟨rfl,rfl,rfl,?_⟩;have mQ:=(au.1 hx).1;refine dq (M:=M) aV I9 rfl rfl rfl rN (aq _ _) (by omega) (fun u a hg hu=>?_);obtain rfl:x=a:=bU (hx.symm.trans (by simpa using hg));refine ab ⟨rfl,rfl,rfl,?_⟩;refine bZ (M:=M) aF rfl rfl rfl rfl rfl hu (aq _ _) (fun vx tz=>?_);obtain rfl:=fH tz;refine ab ⟨rfl,rfl,rfl,?_⟩;refine az aF rfl rfl rfl gk rfl (br (v':=sv k) rfl ?_);refine ab ⟨rfl,rfl,rfl,?_⟩;refine Rg.Ni rfl rfl rfl ?_;refine ab ⟨rfl,rfl,rfl,?_⟩;refine ah rfl rfl ?_;refine ab ⟨rfl,rfl,rfl,?_⟩;refine fo (aI ?_);exact aO rfl rfl ⟨by rw[decide_not],ko⟩
theorem Cb {M:aD} {d:Di} {v0:Value} {k:List UInt8} (w0:World) (hM:Lt M w0) (hd:cf RT.di M w0 v0 d) (yk:ya d.1):
  Spec Tryz.prog 125 #[v0,sv k] w0 (fun v w=>v= .tuple #[.int .i64 (EK d.1 k:Int),.bool (decide (k∈d.1))]∧Step M w0 M w aw):=by
 refine aR (args:=[_,_]) (fn:=Tryz.f125) Tryz.func125 rfl (n:=33) Tryz.ntmps125 ?_;have S:Step M w0 M w0 aw:=(al _ _).bN (fun _ h=>h.elim) (fun _ h=>h.elim);refine ai (ad ?_);refine iJ M rfl rfl (fun sU Fm L6 L7 dD kR=>?_);replace dD:Fm.heap[sU]? =some (.cells #[v0] 139 (0,0)):=by rw[qI hd]at dD;exact dD
 obtain⟨HB,HC⟩:∃M',M'=ins M sU:=⟨_,rfl⟩;rw[←HC]at kR;have qL:HB sU:=by rw[HC];exact .inl rfl
 replace hd:=hd.le (by decide) kR.le;replace hM:=kR.lt hM;have:=S.size;replace S:=S.ax kR;refine iJ HB rfl rfl (fun l7 BB MQ MR eV kS=>?_);obtain⟨ej,ka⟩:∃M',M'=ins HB l7:=⟨_,rfl⟩;rw[←ka]at kS;have dV:ej l7:=by rw[ka];exact .inl rfl
 change BB.heap[l7]? =some (.cells #[sv k] _ _)at eV;have:=aj dD;replace qL:=(kS.mem _ this).2 qL;replace dD:=kS.aE dD;replace hd:=hd.le (by decide) kS.le;replace hM:=kS.lt hM;have:=S.size;replace S:=S.ax kS;refine ah rfl rfl (ah rfl rfl (ab (ai (ad (az Tryz.underlying139 rfl rfl rfl dD rfl (br (v':=v0) rfl (aC rfl hd.jB rfl ?_)))))));refine aM (M:=ej) (A:=RT.di) (B:=RT.str.sl) oB rfl rfl CD (by decide) TS rfl rfl (by decide) hd (aq _ _) (fun pn N8=>?_);refine bZ (M:=ej) aV rfl rfl rfl rfl rfl N8 (aq _ _) (fun vn rN=>?_);replace rN:(RT.str.sl).V ej _ d.1 vn:=rN;have OR:=eR rN;refine bM aV rfl rN rfl (gG (xs:=[]) (ys:=[.tmp 2,.tmp 3]) rfl rfl rfl ?_)
 refine aJ rfl rfl Yx (Ca (M:=ej) (n:=d.1.length) (cap:=[.pointer (some ⟨sU,0,none⟩),.pointer (some ⟨l7,0,none⟩)]) (good:=Yz d.1 k) _ Yy (fun i j gy hj h=>by
  have hi:=aK (show i<d.1.length by omega);have qj:=aK hj;rw[ug hi]at h;rw[ug qj];simp only[oG,decide_eq_false_iff_not]at h ⊢;intro dA;rcases kE d.1[i] d.1[j]with h1|h1|h1
  ·exact h (lD h1 dA)
  ·rw[h1]at h;exact h dA
  ·exact Sc yk gy hi qj h1) (by omega) (fun i w hi s=>by
  have hx:=aK hi;rw[ug hx];exact Aw w (hd.le (by decide) s.le) (s.aE dD) (s.aE eV) hx)) (fun r1 w1 hc=>?_)
 obtain⟨m,rfl,hm,Fc,PD,s1⟩:=hc;have em:EK d.1 k=m:=ue hm (fun i x hi hx=>by have:=Fc i hi;rw[ug hx]at this;simpa using this) (fun i x hi hx=>by have:=PD i hi (au.1 hx).1;rw[ug hx]at this;simpa using this);have:=aj dD;replace qL:=(s1.mem _ this).2 qL;replace dD:=s1.aE dD;have:=aj eV;replace dV:=(s1.mem _ this).2 dV;replace eV:=s1.aE eV;replace hd:=hd.le (by decide) s1.le;replace hM:=s1.lt hM;have:=S.size;replace S:=S.ax s1;refine ah rfl rfl (ab (ai ?_));apply T.kO mixed rfl rfl;intro TA VC;have vY:=VC ej;have:=aj dD;replace qL:=(vY.mem _ this).2 qL;replace dD:=vY.aE dD;have:=aj eV;replace dV:=(vY.mem _ this).2 dV;replace eV:=vY.aE eV;replace hd:=hd.le (by decide) vY.le;replace hM:=vY.lt hM;have:=S.size;replace S:=S.ax vY;refine ae rfl rfl ?_;refine ab ⟨rfl,rfl,rfl,?_⟩;refine ae rfl rfl ?_;refine ab ⟨rfl,rfl,rfl,?_⟩;refine az Tryz.underlying139 rfl rfl rfl dD rfl (br (v':=v0) rfl ?_);refine ab ⟨rfl,rfl,rfl,?_⟩;refine aC rfl hd.jB rfl ?_;refine ab ⟨rfl,rfl,rfl,?_⟩;refine aM (M:=ej) (A:=RT.di) (B:=RT.str.sl) oB rfl rfl CD (by decide) TS rfl rfl (by decide) hd (aq _ _) (fun pn2 YA=>?_);refine ab ⟨rfl,rfl,rfl,?_⟩;refine bZ (M:=ej) aV rfl rfl rfl rfl rfl YA (aq _ _) (fun vn2 N9=>?_);replace N9:(RT.str.sl).V ej _ d.1 vn2:=N9;refine ab ⟨rfl,rfl,rfl,?_⟩;refine bM aV rfl N9 rfl ?_;refine ab ⟨rfl,rfl,rfl,?_⟩;refine bY rfl rfl rfl ?_;refine ab ⟨rfl,rfl,rfl,?_⟩;refine ae rfl rfl ?_;refine ab ⟨rfl,rfl,rfl,?_⟩;refine aL (g:=22) rfl (fun YB=>?_) (fun YB=>?_)
 ·refine ak rfl rfl (az Tryz.underlying139 rfl rfl rfl dD rfl (br (v':=v0) rfl ?_));refine ab ⟨rfl,rfl,rfl,?_⟩;refine ak rfl rfl (aC rfl hd.jB rfl ?_);refine ab ⟨rfl,rfl,rfl,?_⟩;refine ak rfl rfl ?_;refine aM (M:=ej) (A:=RT.di) (B:=RT.str.sl) oB rfl rfl CD (by decide) TS rfl rfl (by decide) hd (aq _ _) (fun pn3 YC=>?_);refine ab ⟨rfl,rfl,rfl,?_⟩;refine ak rfl rfl ?_;refine bZ (M:=ej) aV rfl rfl rfl rfl rfl YC (aq _ _) (fun vn3 Oa=>?_);replace Oa:(RT.str.sl).V ej _ d.1 vn3:=Oa;refine ab ⟨rfl,rfl,rfl,?_⟩;refine ak rfl rfl (ae rfl rfl ?_);refine ab ⟨rfl,rfl,rfl,?_⟩;refine ak rfl rfl ?_;refine dq (M:=ej) aV I9 rfl rfl rfl Oa (aq _ _) (by omega) (fun u2 x YD rB=>?_);rw[aG]at YD;refine ab ⟨rfl,rfl,rfl,?_⟩;refine ak rfl rfl ?_;refine bZ (M:=ej) aF rfl rfl rfl rfl rfl rB (aq _ _) (fun vx tz=>?_);obtain rfl:=fH tz;refine ab ⟨rfl,rfl,rfl,?_⟩;refine ak rfl rfl (az aF rfl rfl rfl eV rfl (br (v':=sv k) rfl ?_));refine ab ⟨rfl,rfl,rfl,?_⟩;refine ak rfl rfl (Rg.Co rfl rfl rfl ?_);refine ab ⟨rfl,rfl,rfl,?_⟩;refine aP rfl rfl rfl ?_;refine ab ⟨rfl,rfl,rfl,?_⟩;refine ah rfl rfl ?_;refine ab ⟨rfl,rfl,rfl,?_⟩;refine ah rfl rfl ?_;refine ab ⟨rfl,rfl,rfl,?_⟩;refine fo (aI ?_);rw[←em]at*
  first
  |(have e:decide (x=k)=decide (k∈d.1):=decide_eq_decide.2 (by rw[←HA yk,YD];simp)
    exact dX rfl rfl rfl ⟨by rw[e],S.back⟩)
  |(have e:k∉d.1:=fun h=>by have:=(yj yk).1 h;have:=(au.1 this).1;omega
    exact dX rfl rfl rfl ⟨by rw[decide_eq_false e],S.back⟩)
 ·refine ao rfl rfl rfl rfl ?_;refine ab ⟨rfl,rfl,rfl,?_⟩;refine ao rfl rfl rfl rfl ?_;refine ab ⟨rfl,rfl,rfl,?_⟩;refine ao rfl rfl rfl rfl ?_;refine ab ⟨rfl,rfl,rfl,?_⟩;refine ao rfl rfl rfl rfl ?_;refine ab ⟨rfl,rfl,rfl,?_⟩;refine ao rfl rfl rfl rfl ?_;refine ab ⟨rfl,rfl,rfl,?_⟩;refine ao rfl rfl rfl rfl ?_;refine ab ⟨rfl,rfl,rfl,?_⟩;refine ao rfl rfl rfl rfl ?_;refine ab ⟨rfl,rfl,rfl,?_⟩;refine ao rfl rfl rfl rfl ?_;refine ab ⟨rfl,rfl,rfl,?_⟩;refine ao rfl rfl rfl rfl ?_;refine ab ⟨rfl,rfl,rfl,?_⟩;refine av rfl rfl rfl ?_;refine ab ⟨rfl,rfl,rfl,?_⟩;refine ah rfl rfl ?_;refine ab ⟨rfl,rfl,rfl,?_⟩;refine ah rfl rfl ?_;refine ab ⟨rfl,rfl,rfl,?_⟩;refine fo (aI ?_);rw[←em]at*
  first
  |(have e:decide (x=k)=decide (k∈d.1):=decide_eq_decide.2 (by rw[←HA yk,YD];simp)
    exact dX rfl rfl rfl ⟨by rw[e],S.back⟩)
  |(have e:k∉d.1:=fun h=>by have:=(yj yk).1 h;have:=(au.1 this).1;omega
    exact dX rfl rfl rfl ⟨by rw[decide_eq_false e],S.back⟩)
theorem find_spec {M:aD} {d:Di} {v0:Value} {k:List UInt8} (w0:World) (hM:Lt M w0) (hd:cf RT.di M w0 v0 d) (yk:ya d.1) (hl:d.1.length=d.2.length):
  Spec Tryz.prog 79 #[v0,sv k] w0 (fun v w=>Step M w0 M w aw∧((∃(j:Nat) (p:Value) (t:Li),v= .tuple #[p,.bool true]∧d.1[j]? =some k∧d.2[j]? =some t∧cf RT.li M w p t)∨(v= .tuple #[.pointer none,.bool false]∧k∉d.1))):=by
 refine aR (args:=[_,_]) (fn:=Tryz.f79) Tryz.func79 rfl (n:=25) Tryz.ntmps79 ?_;have S:Step M w0 M w0 aw:=(al _ _).bN (fun _ h=>h.elim) (fun _ h=>h.elim);refine ai (ad (ah rfl rfl (ah rfl rfl (ab (ai (ad (ae rfl rfl (ae rfl rfl ?_))))))));refine aJ rfl rfl Yw (Cb _ hM hd yk) (fun r1 w1 hc=>?_);obtain⟨rfl,s1⟩:=hc;replace hd:=hd.le (by decide) s1.le;replace hM:=s1.lt hM;have:=S.size;replace S:=S.ax s1;refine ae rfl rfl (bu rfl rfl rfl (bu rfl rfl rfl (ah rfl rfl (ah rfl rfl (ab (ai (ai (ad (ae rfl rfl (km rfl rfl (br (v':= .bool (decide (k∉d.1))) (by simp) ?_)))))))))));refine ab ?_;refine bK rfl (fun c2=>?_) (fun c2=>?_)
 ·refine ai (ad (ah rfl rfl (ab (ai (ad (ae rfl rfl (ah rfl rfl (ah rfl rfl (ab (aI ?_))))))))));exact dX rfl rfl rfl ⟨S,.inr ⟨rfl,c2⟩⟩
 ·refine aT (ai (ad (ae rfl rfl (aC rfl hd.jB rfl ?_))));refine aM (M:=M) (A:=RT.di) (B:=((RT.li).ptr).sl) oB rfl rfl xH (by decide) di1 rfl rfl (by decide) hd (aq _ _) (fun pt Ua=>?_);refine bZ (M:=M) cZ rfl rfl rfl rfl rfl Ua (aq _ _) (fun vt Ob=>?_);replace Ob:(((RT.li).ptr).sl).V M _ d.2 vt:=Ob;refine ae rfl rfl ?_;have hk:=(yj yk).1 (fp.1 c2);have Dq:=(au.1 hk).1;refine dq (M:=M) cZ oN rfl rfl rfl Ob (aq _ _) (by omega) (fun u5 t DY FD=>?_);rw[aG]at DY;refine bZ (M:=M) cF rfl rfl rfl rfl rfl FD (aq _ _) (fun vp YE=>?_);have YF:=C2.1 YE;refine ah rfl rfl (ah rfl rfl (ab (aI ?_)));exact dX rfl rfl rfl ⟨S,.inl ⟨_,_,t,rfl,hk,DY,YF⟩⟩
end Go.K
namespace Go.K
open Go.Proofs
namespace TKSegC
theorem xH:TI Tryz.prog 196 (.slice none 0 0) 1 24:=by unfold TI;kernel_rfl
end TKSegC
open TKSegC
set_option maxRecDepth 10000
end Go.K
namespace Go.K
open Go.Proofs
namespace TKSegD
theorem Oc:TI Tryz.prog 139 (.pointer none) 1 8:=by unfold TI;kernel_rfl
end TKSegD
open TKSegD
set_option maxRecDepth 10000
end Go.K
namespace Go.K
open Go.Proofs
namespace TKSegE
theorem Oc:TI Tryz.prog 139 (.pointer none) 1 8:=by unfold TI;kernel_rfl
theorem E79:Enters Tryz.prog 79:=enters Tryz.func79 rfl (by decide)
end TKSegE
open TKSegE
set_option maxRecDepth 10000
def o3 (ns:List (List UInt8)) (ls:List (List Po)) (k:List UInt8):List Po:=match (ns.zip ls).find? (fun p=>decide (p.1=k))with|some p=>p.2|none=>[]
theorem Od {ns:List (List UInt8)} (hn:ns.Nodup) {ls:List (List Po)} {k:List UInt8} {j:Nat} {l:List Po} (h:ns[j]? =some k) (hl:ls[j]? =some l):o3 ns ls k=l:=by
 have:∀{ns:List (List UInt8)} {ls:List (List Po)} {j:Nat},ns.Nodup→ns[j]? =some k→ls[j]? =some l→(ns.zip ls).find? (fun p=>decide (p.1=k))=some (k,l):=by
  intro ns
  induction ns with
  |nil=>intro ls j _ h;simp at h
  |cons x ns ih=>
   intro ls j hn h hl
   cases ls with
   |nil=>simp at hl
   |cons y ls=>
    cases j with
    |zero=>simp at h hl;subst h;subst hl;simp
    |succ j=>
     have OV:=rV.1 hn;have hk:k∈ns:=aN (by simpa using h);have hx:x≠k:=fun e=>OV.1 (by rw[e];exact hk)
     rw[List.zip_cons_cons,List.find?_cons_of_neg (by simpa using hx)];exact ih OV.2 (by simpa using h) (by simpa using hl)
 unfold o3;rw[this hn h hl]
theorem HD {ns:List (List UInt8)} {ls:List (List Po)} {k:List UInt8} (h:k∉ns):o3 ns ls k=[]:=by
 unfold o3;rw[List.find?_eq_none.2 fun p hp=>by have:=List.of_mem_zip hp;simp;intro e;exact h (e▸this.1)]
def rv (d:Di) (k:List UInt8) (M:aD) (v:Value) (w:World):Prop:=(∃(j:Nat) (t:Li),d.1[j]? =some k∧d.2[j]? =some t∧cf RT.li M w v t)∨(v= .pointer none∧k∉d.1)
theorem rv.step {d:Di} {k:List UInt8} {M M':aD} {v:Value} {w w':World} (h:rv d k M v w) (s:Step M w M' w' aw):rv d k M' v w':=h.imp (fun⟨j,t,h1,h2,h3⟩=>⟨j,t,h1,h2,h3.le (by decide) s.le⟩) id
theorem Em {M:aD} {t:Fd} (w0:World) (hM:Lt M w0) (h1:t.1.length≤140737488355328) (h2:t.2.length≤140737488355328):
  Spec Tryz.prog 80 #[kv t] w0 (fun v w=>v= .string ⟨(du t).toArray⟩∧Step M w0 M w aw):=by
 refine aR (args:=[_]) (fn:=Tryz.f80) Tryz.func80 rfl (n:=9) Tryz.ntmps80 ?_;have S:Step M w0 M w0 aw:=(al _ _).bN (fun _ h=>h.elim) (fun _ h=>h.elim);refine ai (ad ?_);refine Rg.ly (A:=RT.fd) rfl rfl hM (zK (by omega) (by omega)) rfl (fun u0 w1 cA s0 _=>?_);replace hM:=s0.lt hM;have:=S.size;replace S:=S.ax s0;refine ah rfl rfl (ab (ai (ad ?_)));refine aM (M:=M) (A:=RT.fd) (B:=RT.str) cg rfl rfl I9 (by decide) (MB) rfl rfl (by decide) (by assumption) (by repeat (first|exact aq _ _|refine aU (bm (by assumption)) ?_)) (fun uP jC=>?_);refine bZ (M:=M) aF rfl rfl rfl rfl rfl jC (aq _ _) (fun v1 uw=>?_);obtain rfl:=fH uw;refine Rg.cat (p:=t.1) (q:=[0]) rfl rfl rfl (by simp;omega) ?_;refine aM (M:=M) (A:=RT.fd) (B:=RT.str) cg rfl rfl I9 (by decide) (TD) rfl rfl (by decide) (by assumption) (by repeat (first|exact aq _ _|refine aU (bm (by assumption)) ?_)) (fun IM iF=>?_);refine bZ (M:=M) aF rfl rfl rfl rfl rfl iF (aq _ _) (fun v4 pz=>?_);obtain rfl:=fH pz;refine Rg.cat (p:=t.1++[0]) (q:=t.2) rfl rfl rfl (by simp;omega) (ah rfl rfl (ab (aI ?_)));exact aO rfl rfl ⟨rfl,S⟩
end Go.K
namespace Go.K
open Go.Proofs
namespace TKCursor
theorem Oe:TI Tryz.prog 284 (.agg #[(.pointer none),(.int .i64 0),(.slice none 0 0),(.int .i64 0),(.int .i64 0)]) 5 56:=by unfold TI;kernel_rfl
theorem Of:placesOf Tryz.prog 284=[(0,1),(1,1),(2,1),(3,1),(4,1)].map some:=by kernel_rfl
end TKCursor
open TKCursor
set_option maxRecDepth 10000
theorem ry {l:List Po} {j:Nat} {p:Po} (h:l[j]? =some p):(jy l (j:Int))[0]? =some p:=by
 unfold jy;rw[if_neg (by omega),aG,dm,if_pos (by omega),List.getElem?_drop];simpa using h
theorem Cc {l:List Po} {i:Int} (h:(l.length:Int)≤i):jy l i=[]:=by
 unfold jy;rw[if_neg (by omega),dL (by omega),List.take_nil]
theorem Eo {M:aD} {w0:World} {q:Addr} {l:List Po} (hv:cf RT.li M w0 (.pointer (some q)) (hG l)):
  Spec Tryz.prog 202 #[.pointer (some q)] w0 (fun v' w'=>∃bc,v'= .pointer (some ⟨bc,0,none⟩)∧w0.heap.size≤bc∧Step M w0 (ins M bc) w' aw∧Cu 284 l (-1) (ins M bc) w' bc):=by
 refine aR (args:=[_]) (fn:=Tryz.f202) Tryz.func202 rfl (n:=12) Tryz.ntmps202 (ai (ad (ah rfl rfl (ab (ai (ai (ad (ae rfl rfl (Rg.sC (v:= .pointer (some q)) cF rfl ⟨_,rfl⟩ rfl rfl (br (v':= .bool (decide False)) rfl (ab ?_)))))))))));refine mC rfl ((fun h=>h)) (aT (ai (ad (ae rfl rfl (dO (places:=[(0,1),(1,1),(2,1),(3,1),(4,1)]) bC Oe Of rfl ⟨_,_,rfl,rfl,_,_,rfl,rfl,_,_,rfl,rfl,rfl⟩ (out:=[_,_,.slice none 0 0,_,.int .i64 0]) ⟨0,[_],rfl,rfl,by simp[Value.cells],1,[_],rfl,rfl,by simp[Value.cells],3,[_],rfl,rfl,by simp[Value.cells],rfl⟩ ?_)))));refine iJ M rfl rfl (fun bc w1 h1 LF hS s1=>?_);refine ah rfl rfl (ab (aI ?_));exact aO rfl rfl ⟨bc,rfl,h1,s1,.pointer (some q),.slice none 0 0,-1,0,.inl rfl,hS,hv.le (by decide) s1.le,fZ,by omega,by omega,fun _=>rfl,fun h=>by omega⟩
def pV (l:List Po) (i:Int):Int:=if i<l.length then i+1 else i
theorem HE {l:List Po} (hm:dY (-1) l=true) {i:Int} (hi: -1≤i∧i≤l.length):qn l i (min (eJ l i+1) 2147483648)=pV l i:=by
 unfold qn pV;rcases jm l i with⟨h0,h,_⟩|⟨j,d,ps,rfl,hx,h,_⟩|⟨h0,h,_⟩
 ·rw[h,if_neg (by omega),if_pos (by omega)];rw[idx_eq (i:=0) (fun j hj=>absurd hj (mM _)) (fun p hp=>by have:=nN hm (i:=0) (d:=p.1) (ps:=p.2) hp;omega) (bG _)];omega
 ·have hr:=nN hm hx;have hj:=(au.1 hx).1;rw[h,if_neg (by omega),if_pos (by omega)];rw[idx_eq (i:=j+1) (fun t ht p hp=>?_) (fun p hp=>?_) (by omega)]
  ·omega
  ·rcases ec t j with h1|h1
   ·have:=CA hm hp hx h1;simp only at this;omega
   ·rw[show t=j from by omega,hx]at hp;cases hp;simp only;omega
  ·have h1:=CA hm hx hp (by omega);have h2:=nN hm (i:=j+1) (d:=p.1) (ps:=p.2) hp;simp only at h1;omega
 ·rw[h,if_pos (by omega),if_neg (by omega)]
end Go.K
namespace Go.K
open Go.Proofs
namespace TKIdx
theorem YG:Enters Tryz.prog 258:=enters Tryz.func258 rfl (by decide)
end TKIdx
open TKIdx
set_option maxRecDepth 10000
theorem Ep {M:aD} {w0:World} {x:Value} {d to:Int} {bt:Nat} (hM:Lt M w0) (hb:w0.heap[bt]? =some (.cells #[.int .i64 to] 3 (0,0))):
  Spec Tryz.prog 258 #[.agg #[.int .i64 d,x],.pointer (some ⟨bt,0,none⟩)] w0 (fun v' w'=>v'= .bool (decide (to≤d))∧Step M w0 M w' aw):=by
 refine aR (args:=[_,_]) (fn:=Tryz.f258) Tryz.func258 rfl (n:=8) Tryz.ntmps258 (ai (ad ?_));refine iJ M rfl rfl (fun bx w1 h1 LF hS s1=>?_);change w1.heap[bx]? =some (.cells #[.int .i64 d,x] _ _)at hS;have py:=s1.aE hb;refine ah rfl rfl (ab (ai (ad (aB bO rfl rfl I3 (by decide) rfl rfl (az an rfl rfl rfl (by assumption) rfl (az an rfl rfl rfl (by assumption) rfl (dh rfl rfl rfl (ah rfl rfl (ab (aI ?_))))))))));exact aO rfl rfl ⟨rfl,s1.back⟩
set_option maxHeartbeats 2000000 in
theorem pW {M:aD} {w0:World} {v:Value} {lf:List Po} {to:Int} {bt:Nat} (hM:Lt M w0) (hv:((RT.po).sl).V M w0 lf v) (hb:w0.heap[bt]? =some (.cells #[.int .i64 to] 3 (0,0))):
  Spec Tryz.prog 257 #[v,.func (.func 258) #[] #[.pointer (some ⟨bt,0,none⟩)]] w0 (fun v' w'=>v'= .int .i64 (if idx lf to<lf.length then(idx lf to:Int)else-1)∧Step M w0 M w' aw):=by
 have hlen:=eR hv;refine aR (args:=[_,_]) (fn:=Tryz.f257) Tryz.func257 rfl (n:=19) Tryz.ntmps257 (ai (ad (ah rfl rfl (ab (ai (ai (ad (ae rfl rfl (bM a8 rfl hv rfl (ae rfl rfl (ab ?_)))))))))));refine a7 ?_;refine dd (σ:=Nat) (fun s=>[(0,v),(1,.func (.func 258) #[] #[.pointer (some ⟨bt,0,none⟩)]),(7,.int .i64 lf.length),(8,.int .i64 s)]) (fun s w=>s≤lf.length∧Step M w0 M w aw∧∀j,j<s→∀p,lf[j]? =some p→p.1<to) (fun s=>lf.length-s) 0 (.cons rfl (.cons rfl (.cons rfl (.cons rfl .nil)))) ?_ ?_
 ·exact⟨bG _,al _ _,fun j hj=>absurd hj (mM _)⟩
 ·rintro k w1 ⟨hk,S,dA⟩;refine ai (ad (bY rfl rfl rfl (ab (ai ?_))));refine bK rfl (fun c2=>?_) (fun c2=>?_)
  ·refine aT (ai (a7 (ai (ad (ae rfl rfl (ah rfl rfl (ab (ai (ad (ae rfl rfl (ae rfl rfl ?_)))))))))));refine ae rfl rfl ?_;obtain⟨⟨d,ps⟩,hx⟩:∃x,(lf)[k]? =some x:=⟨_,aK (by omega)⟩;refine dq (M:=M) a8 ni rfl rfl rfl (hv.le S.le) (aq _ _) (by first|omega|decide) (fun Qd YH Sd abS=>?_);obtain rfl:(d,ps)=YH:=eQ (bU (Sd.symm.trans (by simpa using hx)));refine cM (M:=M) (A:=RT.po) bO rfl ni (by decide) rfl rfl rfl (by assumption) (by repeat (first|exact aq _ _|refine aU (bm (by assumption)) ?_)) (fun af0 Sf=>?_);obtain⟨x4,rfl,_,_⟩:=LI Sf;refine Rg.nY (first:=[]) (captured:=[.pointer (some ⟨bt,0,none⟩)]) (xs:=[.tmp 15]) rfl rfl rfl YG (Ep (M:=M) (d:=d) (x:=x4) (S.lt hM) (S.aE hb)) (fun r w2 h2=>?_);obtain⟨rfl,s2⟩:=h2;refine ab ?_;refine bK rfl (fun c4=>?_) (fun c4=>?_)
   ·refine ai (ad (ae rfl rfl (ah rfl rfl (ab (aI ?_)))));have he:idx lf to=k:=idx_eq dA (fun p hp=>by rw[hx]at hp;cases hp;exact c4) hk;exact aO rfl rfl ⟨by rw[he,if_pos (by omega)],S.ax s2⟩
   ·refine aT (ad (bA rfl rfl rfl (by omega) (ae rfl rfl (ab ?_))));refine⟨rfl,k+1,(.cons rfl (.cons rfl (.cons rfl (.cons rfl .nil)))),?_,?_⟩
    ·refine⟨by omega,S.ax s2,fun j hj p hp=>?_⟩;rcases ec j k with O6|O6
     ·exact dA j O6 p hp
     ·rw[show j=k from by omega,hx]at hp;cases hp;simp only;omega
    ·show _-(k+1)<_-k;omega
  ·refine cB (ai (ad (ah rfl rfl (ab (aI ?_)))))
   have he:idx lf to=lf.length:=by
    obtain rfl:k=lf.length:=by omega
    exact idx_eq dA (fun p hp=>by simp at hp) (aZ _)
   exact aO rfl rfl ⟨by rw[he,if_neg (by omega)],S⟩
end Go.K
namespace Go.K
open Go.Proofs
namespace TKAdv
theorem rO:TI Tryz.prog 80 (.slice none 0 0) 1 24:=by unfold TI;kernel_rfl
theorem YI:Enters Tryz.prog 180:=enters Tryz.func180 rfl (by decide)
theorem YJ:Enters Tryz.prog 203:=enters Tryz.func203 rfl (by decide)
theorem JG:Enters Tryz.prog 255:=enters Tryz.func255 rfl (by decide)
theorem YK:Enters Tryz.prog 256:=enters Tryz.func256 rfl (by decide)
theorem Sg:Enters Tryz.prog 257:=enters Tryz.func257 rfl (by decide)
end TKAdv
open TKAdv
set_option maxRecDepth 10000
set_option maxHeartbeats 2000000 in
theorem ym {M:aD} {w0:World} {bc:Nat} {l:List Po} {i to:Int} (h:Cu 284 l i M w0 bc) (hM:Lt M w0) (hm:dY (-1) l=true) (iK:∀p∈l,p.2.length≤1099511627776) (AT:(dz (-1) l).length≤1099511627776) (Ls:l.length≤1099511627776) (Px: -9223372036854775808≤to∧to≤9223372036854775807):
  Spec Tryz.prog 203 #[.pointer (some ⟨bc,0,none⟩),.int .i64 to] w0 (fun v' w'=>v'= .int .i64 (eJ l (qn l i to))∧Step M w0 M w' (fun b=>b=bc)∧Cu 284 l (qn l i to) M w' bc):=by
 obtain⟨p,u,k,EB,O7,hb,hp,hu,hi,hk,OL,pZ⟩:=id h;have HT:(hG l).2.1.length=(l.length+7)/8:=by simp[hG,mD]
 have yv:∀b:Nat,b=bc→M b:=fun b hb=>by rw[hb];exact O7
 have hdr:=vM hm i;refine aR (args:=[_,_]) (fn:=Tryz.f203) Tryz.func203 rfl (n:=107) Tryz.ntmps203 (ai (ad ?_));refine iJ M rfl rfl (fun bt w1 ht ht' hT s1=>?_);change w1.heap[bt]? =some (.cells #[.int .i64 to] _ _)at hT;have Jy:bt≠bc:=by have:=aj hb;omega
 have py:=s1.aE hb;generalize vm:ins M bt=M1 at s1;have rG:=s1.lt hM;have KL:=hp.le (by decide) s1.le;have Tl:=hu.le s1.le;have vo:=(s1.mem bc (aj hb)).2 O7;have hcM:∀b:Nat,b=bc→M1 b:=fun b h=>by rw[h];exact vo
 refine ah rfl rfl (ab (ai (ai ?_)));apply T.draw (M:=M1) mixed [b5.eq _,b5.eq _,b5.eq _,b5.eq _,b5.eq _,b5.eq _]
 ·rfl
 ·refine aQ ?_ ?_
  ·intro wD E sD;refine az an rfl rfl rfl (bQ sD (by assumption)) rfl ?_;exact ab ⟨rfl,rfl,_,rfl,rfl,al _ _⟩
  refine aQ ?_ ?_
  ·intro wD E sD;refine ae rfl rfl ?_;exact ab ⟨rfl,rfl,_,rfl,rfl,al _ _⟩
  refine aQ ?_ ?_
  ·intro wD E sD;refine ay (aC rfl ⟨_,rfl⟩ rfl ?_);exact ab ⟨rfl,rfl,_,rfl,rfl,al _ _⟩
  refine aQ ?_ ?_
  ·intro wD E sD;refine ay (aB bC rfl rfl I3 (by decide) rfl rfl ?_);exact ab ⟨rfl,rfl,_,rfl,rfl,al _ _⟩
  refine aQ ?_ ?_
  ·intro wD E sD;refine ay (az an rfl rfl rfl (bQ sD (by assumption)) rfl ?_);exact ab ⟨rfl,rfl,_,rfl,rfl,al _ _⟩
  refine aQ ?_ ?_
  ·intro wD E sD;refine ay (ay (fc rfl rfl rfl ?_));exact ab ⟨rfl,rfl,_,rfl,rfl,al _ _⟩
  exact cb.nil
 ·intro FL ko;refine ay (ay (ay (ay (ay (ay ?_)))));have AU:=ko.aE py;refine bK rfl (fun c1=>?_) (fun c1=>?_)
  ·refine ai (ad (ae rfl rfl (aC rfl ⟨_,rfl⟩ rfl (aB bC rfl rfl I3 (by decide) rfl rfl (az an rfl rfl rfl (by assumption) rfl (ah rfl rfl (ab (aI ?_))))))));have he:qn l i to=i:=by unfold qn;rw[if_pos c1]
   rw[he];have S:=s1.ax ko;exact aO rfl rfl ⟨rfl,S.back.bN (fun _ h=>h.elim) yv,h.step S.back (fun h=>h)⟩
  ·refine aT (ai (ad (ae rfl rfl (aC rfl ⟨_,rfl⟩ rfl (aB bC rfl rfl I3 (by decide) rfl rfl (az an rfl rfl rfl (by assumption) rfl (Rg.max2 rfl rfl rfl (ah rfl rfl (ab (ai (a7 ?_)))))))))));refine dd (σ:=Nat) (fun s=>[(0,.pointer (some ⟨bc,0,none⟩)),(3,.pointer (some ⟨bt,0,none⟩)),(5,.int .i64 s)]) (fun s w=>s≤(l.length+7)/8∧bW (-1) (l.take (8*s))<to∧Step M1 w1 M1 w aw) (fun s=>(l.length+7)/8-s) (max k 0).toNat (.cons rfl (.cons rfl (.cons (by rw[show(((max k 0).toNat:Nat):Int)=max k 0 from by omega];rfl) .nil))) ?_ ?_
   ·exact⟨by omega,DC hm hi hk OL pZ (by omega),ko⟩
   ·rintro n w4 ⟨hn,Fc,S4⟩;have Jr:=S4.aE py;have O8:=S4.aE hT;have EL:=KL.le (by decide) S4.le;refine ai (ai ?_);by_cases Sh:(n:Int)<(((l.length+7)/8:Nat):Int)
    ·apply T.draw (M:=M1) mixed [b5.eq _,b5.eq _,b5.eq _,b5.eq _,b5.eq _,b5.eq _,b5.eq _,b5.eq (.bool true),b5.eq _,b5.eq _,b5.eq _,b5.eq _,b5.eq _,b5.eq _,b5.eq _,b5.eq _,b5.eq _]
     ·rfl
     ·refine aQ ?_ ?_
      ·intro wD E sD;refine ae rfl rfl ?_;exact ab ⟨rfl,rfl,_,rfl,rfl,al _ _⟩
      refine aQ ?_ ?_
      ·intro wD E sD;refine ae rfl rfl ?_;exact ab ⟨rfl,rfl,_,rfl,rfl,al _ _⟩
      refine aQ ?_ ?_
      ·intro wD E sD;refine ay (aC rfl ⟨_,rfl⟩ rfl ?_);exact ab ⟨rfl,rfl,_,rfl,rfl,al _ _⟩
      refine aQ ?_ ?_
      ·intro wD E sD;refine ay (aB bC rfl rfl oN (by decide) rfl rfl ?_);exact ab ⟨rfl,rfl,_,rfl,rfl,al _ _⟩
      refine aQ ?_ ?_
      ·intro wD E sD;refine ay (az cF rfl rfl rfl (bQ sD (by assumption)) rfl ?_);exact ab ⟨rfl,rfl,_,rfl,rfl,al _ _⟩
      refine aQ ?_ ?_
      ·intro wD E sD;refine ay ?_;refine aJ rfl rfl JG (kF (M:=M1) (EL.le (by decide) sD.le)) (fun r wc h=>?_);obtain⟨rfl,rfl⟩:=h;exact ab ⟨rfl,rfl,_,rfl,congrArg (fun n:Nat=>Value.int .i64 n) HT,al _ _⟩
      refine aQ ?_ ?_
      ·intro wD E sD;refine ay (ay (bY rfl rfl rfl ?_));exact ab ⟨rfl,rfl,_,rfl,rfl,al _ _⟩
      refine aQ ?_ ?_
      ·intro wD E sD;refine ay (ay (ae rfl rfl ?_));refine ab ⟨rfl,rfl,_,rfl,?_,al _ _⟩;exact congrArg Value.bool (decide_eq_true Sh)
      refine aQ ?_ ?_
      ·intro wD E sD;refine ay (ak rfl rfl (ae rfl rfl ?_));exact ab ⟨rfl,rfl,_,rfl,rfl,al _ _⟩
      refine aQ ?_ ?_
      ·intro wD E sD;refine ay (ay (ak rfl rfl (aC rfl ⟨_,rfl⟩ rfl ?_)));exact ab ⟨rfl,rfl,_,rfl,rfl,al _ _⟩
      refine aQ ?_ ?_
      ·intro wD E sD;refine ay (ay (ak rfl rfl (aB bC rfl rfl oN (by decide) rfl rfl ?_)));exact ab ⟨rfl,rfl,_,rfl,rfl,al _ _⟩
      refine aQ ?_ ?_
      ·intro wD E sD;refine ay (ay (ak rfl rfl (az cF rfl rfl rfl (bQ sD (by assumption)) rfl ?_)));exact ab ⟨rfl,rfl,_,rfl,rfl,al _ _⟩
      refine aQ ?_ ?_
      ·intro wD E sD;refine ay (ak rfl rfl (ae rfl rfl ?_));exact ab ⟨rfl,rfl,_,rfl,rfl,al _ _⟩
      refine aQ ?_ ?_
      ·intro wD E sD;refine ay (ay (ay (ay (ak rfl rfl ?_))));refine aJ rfl rfl YK (Ej (k:=n) (EL.le (by decide) sD.le)) (fun r wc h=>?_);obtain⟨rfl,rfl⟩:=h;exact ab ⟨rfl,rfl,_,rfl,rfl,al _ _⟩
      refine aQ ?_ ?_
      ·intro wD E sD;refine ay (ak rfl rfl (az an rfl rfl rfl (bQ sD (by assumption)) rfl ?_));exact ab ⟨rfl,rfl,_,rfl,rfl,al _ _⟩
      refine aQ ?_ ?_
      ·intro wD E sD;refine ay (ay (ay (ak rfl rfl (bY rfl rfl rfl ?_))));exact ab ⟨rfl,rfl,_,rfl,rfl,al _ _⟩
      refine aQ ?_ ?_
      ·intro wD E sD;refine ay (ay (aP rfl rfl rfl ?_));exact ab ⟨rfl,rfl,_,rfl,rfl,al _ _⟩
      exact cb.nil
     ·intro wD4 wR;refine ay (ay (ay (ay (ay (ay (ay (ay (ay (ay (ay (ay ?_)))))))))));refine ay (ay (ay (ay (ay ?_))));replace S4:=S4.ax wR;replace Jr:=wR.aE Jr;replace O8:=wR.aE O8;replace EL:=EL.le (by decide) wR.le;have NV:=S4.lt rG;refine bK rfl (fun c4=>?_) (fun c4=>?_)
      ·refine aT (a7 (ad (ae rfl rfl (bA rfl rfl rfl (by omega) (ah rfl rfl (ab ?_))))));refine⟨rfl,n+1,(.cons rfl (.cons rfl (.cons rfl .nil))),?_,?_⟩
       ·have qX:=yV (g:=l) (k:=n) (by omega);refine⟨by omega,?_,S4⟩;rw[show 8*(n+1)=8*n+8 from by omega,←qX];exact c4
       ·show _-(n+1)<_-n;omega
      ·refine cB (ai (ai (ad (ae rfl rfl (ae rfl rfl (aC rfl ⟨_,rfl⟩ rfl (aB bC rfl rfl oN (by decide) rfl rfl (az cF rfl rfl rfl (by assumption) rfl ?_))))))));refine aJ rfl rfl JG (kF (M:=M1) EL) (fun r wc h=>?_);obtain⟨rfl,rfl⟩:=h;refine br (v':= .int .i64 (((l.length+7)/8:Nat):Int)) (congrArg (fun n:Nat=>Value.int .i64 n) HT) (jD rfl rfl rfl (ab ?_));refine bK rfl (fun c6=>?_) (fun c6=>?_)
       ·exfalso;omega
       ·have hnk:n<(l.length+7)/8:=by omega
        have PD:to≤bW (-1) (l.take (8*n+8)):=by
         first
         |(exfalso;omega)
         |(have:=yV (g:=l) (k:=n) (by omega);omega)
        refine aT (ai (ai (ad (ae rfl rfl (ae rfl rfl (aC rfl ⟨_,rfl⟩ rfl (aB bC rfl rfl I3 (by decide) rfl rfl (az an rfl rfl rfl (by assumption) rfl (eg rfl rfl rfl (ab ?_))))))))));refine bK rfl (fun c9=>?_) (fun c9=>?_)
        ·refine ai (ad (ae rfl rfl (ae rfl rfl (ae rfl rfl (ae rfl rfl (aC rfl ⟨_,rfl⟩ rfl (aB bC rfl rfl oN (by decide) rfl rfl (az cF rfl rfl rfl (by assumption) rfl (ae rfl rfl ?_)))))))));refine aJ rfl rfl YI (B1 (M:=M1) (k:=n) NV EL hm iK AT) (fun TF TG h=>?_);obtain⟨ny,Ef⟩:=h;rw[if_pos (by unfold E8;simp;omega),aG]at Ef;have YL:=ny.aE Jr;refine aC rfl ⟨_,rfl⟩ rfl (aB bC rfl rfl I3 (by decide) rfl rfl ?_);refine bL (M:=M1) I3 rfl rfl YL rfl rfl vo (fun PY Si oP=>?_);change PY.heap[bc]? =some (.cells #[p,.int .i64 n,u,.int .i64 (eJ l i),.int .i64 EB] 284 (0,0))at Si;refine aC rfl ⟨_,rfl⟩ rfl (aB bC rfl rfl rO (by decide) rfl rfl ?_);refine bL (M:=M1) rO rfl rfl Si rfl (j0 Ef rfl rfl) vo (fun EF JH kq=>?_);change EF.heap[bc]? =some (.cells #[p,.int .i64 n,TF,.int .i64 (eJ l i),.int .i64 EB] 284 (0,0))at JH;refine ab (ad (ae rfl rfl (aC rfl ⟨_,rfl⟩ rfl (aB bC rfl rfl I3 (by decide) rfl rfl (az an rfl rfl rfl (by assumption) rfl (Rg.xk rfl rfl rfl (aC rfl ⟨_,rfl⟩ rfl (aB bC rfl rfl I3 (by decide) rfl rfl ?_))))))));refine bL (M:=M1) I3 rfl rfl JH rfl rfl vo (fun OX Og om=>?_);change OX.heap[bc]? =some (.cells #[p,.int .i64 n,TF,.int .i64 (eJ l i),.int .i64 (IntKind.i64.wrap (EB+1))] 284 (0,0))at Og;obtain⟨lf,uX,cX,s,wX,YM,YN,Sj,LH,qd,mU,oR,YO,hpX,YP,SX⟩:∃lf uX cX s wX,wX=OX∧wX.heap[bc]? =some (.cells #[p,.int .i64 n,uX,.int .i64 (eJ l i),.int .i64 cX] 284 (0,0))∧((RT.po).sl).V M1 wX lf uX∧lf=(l.drop s).take (8*n+8-s)∧8*n≤s∧s<8*n+8∧s<l.length∧bW (-1) (l.take s)<to∧cf RT.li M1 wX p (hG l)∧wX.heap[bt]? =some (.cells #[.int .i64 to] 3 (0,0))∧Step M1 w1 M1 wX (fun b=>b=bc):=⟨_,TF,_,8*n,OX,rfl,Og,((Ef.le oP.le).le kq.le).le om.le,by rw[show 8*n+8-8*n=8 from by omega],by omega,by omega,by omega,Fc,(((EL.le (by decide) ny.le).le (by decide) oP.le).le (by decide) kq.le).le (by decide) om.le,om.bB (kq.bB (oP.bB (ny.aE O8) Jy) Jy) Jy,((((S4.bN (fun _ h=>h.elim) hcM).ax ny).trans oP (fun _ _ h=>h)).trans kq (fun _ _ h=>h)).trans om (fun _ _ h=>h)⟩
         subst YM;clear Og;refine ab (ai ?_);obtain⟨UB,OG,YQ,ha4,YR⟩:=vP hm qd mU oR YO PD LH;have YS:=SX.lt rG;obtain⟨⟨d,ps⟩,hx⟩:∃x,l[idx l to]? =some x:=⟨_,aK YQ⟩;have hh:=ry hx;have hhl:=(au.1 hh).1;apply T.Cw (M:=M1) mixed [] [b5.eq _,b5.eq _,b5.eq _,b5.eq _,b5.eq uX,b5.eq _,b5.eq _,b5.eq _,b5.eq uX,b5.eq _,b5.eq _,b5.V ((RT.po).sl) (jy l (idx l to:Nat))] 12
         ·rfl
         ·rfl
         ·rfl
         ·rfl
         ·rfl
         ·exact fun p hp=>by cases hp
         ·exact rA.none
         ·refine aH ?_ ?_
          ·intro wD E sD;refine ae rfl rfl ?_;exact ab ⟨rfl,rfl,_,rfl,rfl,al _ _⟩
          refine aH ?_ ?_
          ·intro wD E sD;refine ae rfl rfl ?_;exact ab ⟨rfl,rfl,_,rfl,rfl,al _ _⟩
          refine aH ?_ ?_
          ·intro wD E sD;refine ay (aC rfl ⟨_,rfl⟩ rfl ?_);exact ab ⟨rfl,rfl,_,rfl,rfl,al _ _⟩
          refine aH ?_ ?_
          ·intro wD E sD;refine ay (aB bC rfl rfl rO (by decide) rfl rfl ?_);exact ab ⟨rfl,rfl,_,rfl,rfl,al _ _⟩
          refine aH ?_ ?_
          ·intro wD E sD;refine ay (az a8 rfl rfl rfl (bQ sD (by assumption)) rfl ?_);exact ab ⟨rfl,rfl,_,rfl,rfl,al _ _⟩
          refine aH ?_ ?_
          ·intro wD E sD;refine ae rfl rfl ?_;exact ab ⟨rfl,rfl,_,rfl,rfl,al _ _⟩
          refine aH ?_ ?_
          ·intro wD E sD;refine ay (aC rfl ⟨_,rfl⟩ rfl ?_);exact ab ⟨rfl,rfl,_,rfl,rfl,al _ _⟩
          refine aH ?_ ?_
          ·intro wD E sD;refine ay (aB bC rfl rfl rO (by decide) rfl rfl ?_);exact ab ⟨rfl,rfl,_,rfl,rfl,al _ _⟩
          refine aH ?_ ?_
          ·intro wD E sD;refine ay (az a8 rfl rfl rfl (bQ sD (by assumption)) rfl ?_);exact ab ⟨rfl,rfl,_,rfl,rfl,al _ _⟩
          refine aH ?_ ?_
          ·intro wD E sD;refine gG (xs:=[]) (ys:=[.tmp 3]) rfl rfl rfl ?_;exact ab ⟨rfl,rfl,_,rfl,rfl,al _ _⟩
          refine aH ?_ ?_
          ·intro wD E sD;refine ay (ay ?_);refine aJ rfl rfl Sg (pW (M:=M1) (sD.lt YS) (Sj.le sD.le) (sD.aE YP)) (fun r wi h=>?_);obtain⟨rfl,s⟩:=h;refine br (v':= .int .i64 ((idx lf to:Nat):Int)) (by rw[if_pos OG]) ?_;exact ab ⟨rfl,rfl,_,rfl,rfl,s⟩
          refine aH ?_ ?_
          ·intro wD E sD;refine ay (ay ?_);refine Rg.xm (A:=RT.po) (hn:=by decide) a8 ni rfl rfl rfl (Sj.le sD.le) (by omega) (fun u hu=>?_);rw[aG,YR]at hu;exact ab ⟨rfl,rfl,_,rfl,hu,al _ _⟩
          exact bE.nil
         ·intro Ho uc;refine ay (ay (ay (ay (ay (ay (ay (ay (ay (ay (ay ?_))))))))));intro mg yn;have Oh:=uc.aE YN;have jA:((RT.po).sl).V M1 Ho (jy l (idx l to:Nat)) mg:=yn;have YT:=SX.ax uc;refine aC rfl ⟨_,rfl⟩ rfl (aB bC rfl rfl rO (by decide) rfl rfl ?_);refine bL (M:=M1) rO rfl rfl Oh rfl (j0 jA rfl rfl) vo (fun MP HF qC=>?_);change MP.heap[bc]? =some (.cells #[p,.int .i64 n,mg,.int .i64 (eJ l i),.int .i64 cX] 284 (0,0))at HF;replace jA:=jA.le qC.le;refine ab (ai (ad (ae rfl rfl (ae rfl rfl (aC rfl ⟨_,rfl⟩ rfl (aB bC rfl rfl rO (by decide) rfl rfl (az a8 rfl rfl rfl (by assumption) rfl ?_)))))));refine dq (M:=M1) a8 ni rfl rfl rfl (jA) (aq _ _) (by first|omega|decide) (fun Sk HG Cd Oi=>?_);obtain rfl:(d,ps)=HG:=eQ (bU (Cd.symm.trans (by simpa using hh)));refine aM (M:=M1) (A:=RT.po) (B:=RT.int .i64) bO rfl rfl I3 (by decide) (HV) rfl rfl (by decide) (by assumption) (by repeat (first|exact aq _ _|refine aU (bm (by assumption)) ?_)) (fun Kw F4=>?_);refine cn (M:=M1) an rfl rfl (by assumption) (by repeat (first|exact aq _ _|refine aU (bm (by assumption)) ?_)) (fun uh=>?_);refine br (v':= .int .i64 (d)) rfl ?_;replace uh: -9223372036854775808≤(d:Int)∧d≤9223372036854775807:=uh;refine aC rfl ⟨_,rfl⟩ rfl (aB bC rfl rfl I3 (by decide) rfl rfl ?_);refine bL (M:=M1) I3 rfl rfl HF rfl rfl vo (fun KQ HH B3=>?_);change KQ.heap[bc]? =some (.cells #[p,.int .i64 n,mg,.int .i64 d,.int .i64 cX] 284 (0,0))at HH;replace jA:=jA.le B3.le;refine ab (ai (ad (ae rfl rfl (aC rfl ⟨_,rfl⟩ rfl (aB bC rfl rfl I3 (by decide) rfl rfl (az an rfl rfl rfl (by assumption) rfl (ah rfl rfl (ab (aI ?_)))))))))
          have he:qn l i to=(idx l to:Int):=by unfold qn;rw[if_neg c1]
          rw[he];have S7:=((s1.bN (fun _ h=>h.elim) yv).trans ((YT.trans qC (fun _ _ h=>h)).trans B3 (fun _ _ h=>h)) (fun _ _ h=>h));exact aO rfl rfl ⟨by rw[ig hx];rfl,S7.back,p,mg,n,cX,O7,by rw[ig hx];exact HH,(hp.le (by decide) S7.back.le),jA.le (Le.close hM S7),by omega,by omega,fun h=>by omega,fun _ h=>by omega⟩
        ·have af6:=(iU l (-1) hm (by decide) (8*n+8)).2
         obtain⟨Ti,vB⟩:0≤i∧i<l.length:=by
          rcases jm l i with⟨h0,_⟩|⟨j,d,ps,rfl,hx,_⟩|⟨h0,h1,_⟩
          ·have:=OL h0;omega
          ·have:=(au.1 hx).1;omega
          ·omega
         have yP:=pZ Ti vB;obtain⟨j,gy⟩:∃j:Nat,i=j:=⟨i.toNat,by omega⟩;obtain⟨⟨dj,pj⟩,hxj⟩:∃x,l[j]? =some x:=⟨_,aK (by omega)⟩;have hdj:=ig hxj;rw[←gy]at hdj;have OF:=(mX hm hxj).1;obtain rfl:(n:Int)=k:=by omega
         have ED:=Tl.le S4.le;obtain⟨lf,uX,cX,s,wX,YM,YN,Sj,LH,qd,mU,oR,YO,hpX,YP,SX⟩:∃lf uX cX s wX,wX=_∧wX.heap[bc]? =some (.cells #[p,.int .i64 n,uX,.int .i64 (eJ l i),.int .i64 cX] 284 (0,0))∧((RT.po).sl).V M1 wX lf uX∧lf=(l.drop s).take (8*n+8-s)∧8*n≤s∧s<8*n+8∧s<l.length∧bW (-1) (l.take s)<to∧cf RT.li M1 wX p (hG l)∧wX.heap[bt]? =some (.cells #[.int .i64 to] 3 (0,0))∧Step M1 w1 M1 wX (fun b=>b=bc):=⟨_,u,EB,j,_,rfl,Jr,ED,by rw[gy];unfold jy;rw[if_neg (by omega),aG,show 8*n+8-j=8-j%8 from by omega],by omega,by omega,by omega,by omega,EL,O8,S4.bN (fun _ h=>h.elim) hcM⟩;subst YM;clear Jr;refine aT (ai ?_);obtain⟨UB,OG,YQ,ha4,YR⟩:=vP hm qd mU oR YO PD LH;have YS:=SX.lt rG;obtain⟨⟨d,ps⟩,hx⟩:∃x,l[idx l to]? =some x:=⟨_,aK YQ⟩;have hh:=ry hx;have hhl:=(au.1 hh).1;apply T.Cw (M:=M1) mixed [] [b5.eq _,b5.eq _,b5.eq _,b5.eq _,b5.eq uX,b5.eq _,b5.eq _,b5.eq _,b5.eq uX,b5.eq _,b5.eq _,b5.V ((RT.po).sl) (jy l (idx l to:Nat))] 12
         ·rfl
         ·rfl
         ·rfl
         ·rfl
         ·rfl
         ·exact fun p hp=>by cases hp
         ·exact rA.none
         ·refine aH ?_ ?_
          ·intro wD E sD;refine ae rfl rfl ?_;exact ab ⟨rfl,rfl,_,rfl,rfl,al _ _⟩
          refine aH ?_ ?_
          ·intro wD E sD;refine ae rfl rfl ?_;exact ab ⟨rfl,rfl,_,rfl,rfl,al _ _⟩
          refine aH ?_ ?_
          ·intro wD E sD;refine ay (aC rfl ⟨_,rfl⟩ rfl ?_);exact ab ⟨rfl,rfl,_,rfl,rfl,al _ _⟩
          refine aH ?_ ?_
          ·intro wD E sD;refine ay (aB bC rfl rfl rO (by decide) rfl rfl ?_);exact ab ⟨rfl,rfl,_,rfl,rfl,al _ _⟩
          refine aH ?_ ?_
          ·intro wD E sD;refine ay (az a8 rfl rfl rfl (bQ sD (by assumption)) rfl ?_);exact ab ⟨rfl,rfl,_,rfl,rfl,al _ _⟩
          refine aH ?_ ?_
          ·intro wD E sD;refine ae rfl rfl ?_;exact ab ⟨rfl,rfl,_,rfl,rfl,al _ _⟩
          refine aH ?_ ?_
          ·intro wD E sD;refine ay (aC rfl ⟨_,rfl⟩ rfl ?_);exact ab ⟨rfl,rfl,_,rfl,rfl,al _ _⟩
          refine aH ?_ ?_
          ·intro wD E sD;refine ay (aB bC rfl rfl rO (by decide) rfl rfl ?_);exact ab ⟨rfl,rfl,_,rfl,rfl,al _ _⟩
          refine aH ?_ ?_
          ·intro wD E sD;refine ay (az a8 rfl rfl rfl (bQ sD (by assumption)) rfl ?_);exact ab ⟨rfl,rfl,_,rfl,rfl,al _ _⟩
          refine aH ?_ ?_
          ·intro wD E sD;refine gG (xs:=[]) (ys:=[.tmp 3]) rfl rfl rfl ?_;exact ab ⟨rfl,rfl,_,rfl,rfl,al _ _⟩
          refine aH ?_ ?_
          ·intro wD E sD;refine ay (ay ?_);refine aJ rfl rfl Sg (pW (M:=M1) (sD.lt YS) (Sj.le sD.le) (sD.aE YP)) (fun r wi h=>?_);obtain⟨rfl,s⟩:=h;refine br (v':= .int .i64 ((idx lf to:Nat):Int)) (by rw[if_pos OG]) ?_;exact ab ⟨rfl,rfl,_,rfl,rfl,s⟩
          refine aH ?_ ?_
          ·intro wD E sD;refine ay (ay ?_);refine Rg.xm (A:=RT.po) (hn:=by decide) a8 ni rfl rfl rfl (Sj.le sD.le) (by omega) (fun u hu=>?_);rw[aG,YR]at hu;exact ab ⟨rfl,rfl,_,rfl,hu,al _ _⟩
          exact bE.nil
         ·intro Ho uc;refine ay (ay (ay (ay (ay (ay (ay (ay (ay (ay (ay ?_))))))))));intro mg yn;have Oh:=uc.aE YN;have jA:((RT.po).sl).V M1 Ho (jy l (idx l to:Nat)) mg:=yn;have YT:=SX.ax uc;refine aC rfl ⟨_,rfl⟩ rfl (aB bC rfl rfl rO (by decide) rfl rfl ?_);refine bL (M:=M1) rO rfl rfl Oh rfl (j0 jA rfl rfl) vo (fun MP HF qC=>?_);change MP.heap[bc]? =some (.cells #[p,.int .i64 n,mg,.int .i64 (eJ l i),.int .i64 cX] 284 (0,0))at HF;replace jA:=jA.le qC.le;refine ab (ai (ad (ae rfl rfl (ae rfl rfl (aC rfl ⟨_,rfl⟩ rfl (aB bC rfl rfl rO (by decide) rfl rfl (az a8 rfl rfl rfl (by assumption) rfl ?_)))))));refine dq (M:=M1) a8 ni rfl rfl rfl (jA) (aq _ _) (by first|omega|decide) (fun Sk HG Cd Oi=>?_);obtain rfl:(d,ps)=HG:=eQ (bU (Cd.symm.trans (by simpa using hh)));refine aM (M:=M1) (A:=RT.po) (B:=RT.int .i64) bO rfl rfl I3 (by decide) (HV) rfl rfl (by decide) (by assumption) (by repeat (first|exact aq _ _|refine aU (bm (by assumption)) ?_)) (fun Kw F4=>?_);refine cn (M:=M1) an rfl rfl (by assumption) (by repeat (first|exact aq _ _|refine aU (bm (by assumption)) ?_)) (fun uh=>?_);refine br (v':= .int .i64 (d)) rfl ?_;replace uh: -9223372036854775808≤(d:Int)∧d≤9223372036854775807:=uh;refine aC rfl ⟨_,rfl⟩ rfl (aB bC rfl rfl I3 (by decide) rfl rfl ?_);refine bL (M:=M1) I3 rfl rfl HF rfl rfl vo (fun KQ HH B3=>?_);change KQ.heap[bc]? =some (.cells #[p,.int .i64 n,mg,.int .i64 d,.int .i64 cX] 284 (0,0))at HH;replace jA:=jA.le B3.le;refine ab (ai (ad (ae rfl rfl (aC rfl ⟨_,rfl⟩ rfl (aB bC rfl rfl I3 (by decide) rfl rfl (az an rfl rfl rfl (by assumption) rfl (ah rfl rfl (ab (aI ?_)))))))))
          have he:qn l i to=(idx l to:Int):=by unfold qn;rw[if_neg c1]
          rw[he];have S7:=((s1.bN (fun _ h=>h.elim) yv).trans ((YT.trans qC (fun _ _ h=>h)).trans B3 (fun _ _ h=>h)) (fun _ _ h=>h));exact aO rfl rfl ⟨by rw[ig hx];rfl,S7.back,p,mg,n,cX,O7,by rw[ig hx];exact HH,(hp.le (by decide) S7.back.le),jA.le (Le.close hM S7),by omega,by omega,fun h=>by omega,fun _ h=>by omega⟩
    ·apply T.draw (M:=M1) mixed [b5.eq _,b5.eq _,b5.eq _,b5.eq _,b5.eq _,b5.eq _,b5.eq _,b5.eq (.bool false),b5.eq undef,b5.eq undef,b5.eq undef,b5.eq undef,b5.eq undef,b5.eq undef,b5.eq undef,b5.eq undef,b5.eq _]
     ·rfl
     ·refine aQ ?_ ?_
      ·intro wD E sD;refine ae rfl rfl ?_;exact ab ⟨rfl,rfl,_,rfl,rfl,al _ _⟩
      refine aQ ?_ ?_
      ·intro wD E sD;refine ae rfl rfl ?_;exact ab ⟨rfl,rfl,_,rfl,rfl,al _ _⟩
      refine aQ ?_ ?_
      ·intro wD E sD;refine ay (aC rfl ⟨_,rfl⟩ rfl ?_);exact ab ⟨rfl,rfl,_,rfl,rfl,al _ _⟩
      refine aQ ?_ ?_
      ·intro wD E sD;refine ay (aB bC rfl rfl oN (by decide) rfl rfl ?_);exact ab ⟨rfl,rfl,_,rfl,rfl,al _ _⟩
      refine aQ ?_ ?_
      ·intro wD E sD;refine ay (az cF rfl rfl rfl (bQ sD (by assumption)) rfl ?_);exact ab ⟨rfl,rfl,_,rfl,rfl,al _ _⟩
      refine aQ ?_ ?_
      ·intro wD E sD;refine ay ?_;refine aJ rfl rfl JG (kF (M:=M1) (EL.le (by decide) sD.le)) (fun r wc h=>?_);obtain⟨rfl,rfl⟩:=h;exact ab ⟨rfl,rfl,_,rfl,congrArg (fun n:Nat=>Value.int .i64 n) HT,al _ _⟩
      refine aQ ?_ ?_
      ·intro wD E sD;refine ay (ay (bY rfl rfl rfl ?_));exact ab ⟨rfl,rfl,_,rfl,rfl,al _ _⟩
      refine aQ ?_ ?_
      ·intro wD E sD;refine ay (ay (ae rfl rfl ?_));refine ab ⟨rfl,rfl,_,rfl,?_,al _ _⟩;exact congrArg Value.bool (decide_eq_false Sh)
      refine aQ ?_ ?_
      ·intro wD E sD;refine ay ?_;exact ao rfl rfl rfl rfl (ab ⟨rfl,rfl,_,rfl,rfl,al _ _⟩)
      refine aQ ?_ ?_
      ·intro wD E sD;refine ay (ay ?_);exact ao rfl rfl rfl rfl (ab ⟨rfl,rfl,_,rfl,rfl,al _ _⟩)
      refine aQ ?_ ?_
      ·intro wD E sD;refine ay (ay ?_);exact ao rfl rfl rfl rfl (ab ⟨rfl,rfl,_,rfl,rfl,al _ _⟩)
      refine aQ ?_ ?_
      ·intro wD E sD;refine ay (ay ?_);exact ao rfl rfl rfl rfl (ab ⟨rfl,rfl,_,rfl,rfl,al _ _⟩)
      refine aQ ?_ ?_
      ·intro wD E sD;refine ay ?_;exact ao rfl rfl rfl rfl (ab ⟨rfl,rfl,_,rfl,rfl,al _ _⟩)
      refine aQ ?_ ?_
      ·intro wD E sD;refine ay (ay (ay (ay ?_)));exact ao rfl rfl rfl rfl (ab ⟨rfl,rfl,_,rfl,rfl,al _ _⟩)
      refine aQ ?_ ?_
      ·intro wD E sD;refine ay ?_;exact ao rfl rfl rfl rfl (ab ⟨rfl,rfl,_,rfl,rfl,al _ _⟩)
      refine aQ ?_ ?_
      ·intro wD E sD;refine ay (ay (ay ?_));exact ao rfl rfl rfl rfl (ab ⟨rfl,rfl,_,rfl,rfl,al _ _⟩)
      refine aQ ?_ ?_
      ·intro wD E sD;refine ay (ay (av rfl rfl rfl ?_));exact ab ⟨rfl,rfl,_,rfl,rfl,al _ _⟩
      exact cb.nil
     ·intro wD4 wR;refine ay (ay (ay (ay (ay (ay (ay (ay (ay (ay (ay (ay ?_)))))))))));refine ay (ay (ay (ay (ay ?_))));replace S4:=S4.ax wR;replace Jr:=wR.aE Jr;replace O8:=wR.aE O8;replace EL:=EL.le (by decide) wR.le;have NV:=S4.lt rG;refine fL rfl (cB (ai (ai (ad (ae rfl rfl (ae rfl rfl (aC rfl ⟨_,rfl⟩ rfl (aB bC rfl rfl oN (by decide) rfl rfl (az cF rfl rfl rfl (by assumption) rfl ?_)))))))));refine aJ rfl rfl JG (kF (M:=M1) EL) (fun r wc h=>?_);obtain⟨rfl,rfl⟩:=h;refine br (v':= .int .i64 (((l.length+7)/8:Nat):Int)) (congrArg (fun n:Nat=>Value.int .i64 n) HT) (jD rfl rfl rfl (ab ?_));refine bK rfl (fun c6=>?_) (fun c6=>?_)
      ·refine ai (ad (ae rfl rfl (ae rfl rfl (aC rfl ⟨_,rfl⟩ rfl (aB bC rfl rfl rO (by decide) rfl rfl ?_)))));refine bL (M:=M1) rO rfl rfl Jr rfl rfl vo (fun w7 hb7 s7=>?_);change w7.heap[bc]? =some (.cells #[p,.int .i64 k,.slice none 0 0,.int .i64 (eJ l i),.int .i64 EB] 284 (0,0))at hb7;refine aC rfl ⟨_,rfl⟩ rfl (aB bC rfl rfl I3 (by decide) rfl rfl ?_);refine bL (M:=M1) I3 rfl rfl hb7 rfl rfl vo (fun w8 hb8 s8=>?_);change w8.heap[bc]? =some (.cells #[p,.int .i64 k,.slice none 0 0,.int .i64 2147483648,.int .i64 EB] 284 (0,0))at hb8;refine ab (ai (ad (ah rfl rfl (ab (aI ?_)))));have he:qn l i to=(l.length:Int):=by unfold qn;rw[if_neg c1,Iq hm (n:=8*n) (by omega) Fc]
       rw[he];have S7:=((s1.ax S4).bN (fun _ h=>h.elim) yv).trans ((s7.trans s8 (fun _ _ h=>h))) (fun _ _ h=>h);exact aO rfl rfl ⟨by rw[qo (Int.le_refl _)],S7.back,p,.slice none 0 0,k,EB,O7,by rw[qo (Int.le_refl _)];exact hb8,(hp.le (by decide) S7.back.le),by rw[Cc (Int.le_refl _)];exact fZ,by omega,hk,fun h=>by omega,fun _ h=>by omega⟩
      ·exfalso;omega
theorem xb {M:aD} {w0:World} {bc:Nat} {l:List Po} {i:Int} (h:Cu 284 l i M w0 bc) (hM:Lt M w0) (hm:dY (-1) l=true) (iK:∀p∈l,p.2.length≤1099511627776) (AT:(dz (-1) l).length≤1099511627776) (Ls:l.length≤1099511627776):
  Spec Tryz.prog 151 #[.pointer (some ⟨bc,0,none⟩)] w0 (fun v' w'=>v'= .int .i64 (eJ l (pV l i))∧Step M w0 M w' (fun b=>b=bc)∧Cu 284 l (pV l i) M w' bc):=by
 obtain⟨p,u,k,EB,O7,hb,hp,hu,hi,hk,OL,pZ⟩:=id h;have hdr:=vM hm i;refine aR (args:=[_]) (fn:=Tryz.f151) Tryz.func151 rfl (n:=11) Tryz.ntmps151 (ai (ad (ah rfl rfl (ab (ai (ad (ae rfl rfl (ae rfl rfl (aC rfl ⟨_,rfl⟩ rfl (aB bC rfl rfl I3 (by decide) rfl rfl (az an rfl rfl rfl (by assumption) rfl ?_)))))))))));refine bA rfl rfl rfl (by omega) (Rg.min2 rfl rfl rfl ?_);have hn:qn l i (min (eJ l i+1) 2147483648)=pV l i:=HE hm hi;refine aJ rfl rfl YJ (ym (to:=min (eJ l i+1) 2147483648) h hM hm iK AT Ls (by omega)) (fun r w1 h1=>?_);rw[hn]at h1;obtain⟨rfl,s1,h1⟩:=h1;refine ah rfl rfl (ab (aI ?_));exact aO rfl rfl ⟨rfl,s1,h1⟩
end Go.K
namespace Go.K
open Go.Proofs
namespace TKErsA
theorem Oc:TI Tryz.prog 139 (.pointer none) 1 8:=by unfold TI;kernel_rfl
theorem Oe:TI Tryz.prog 284 (.agg #[(.pointer none),(.int .i64 0),(.slice none 0 0),(.int .i64 0),(.int .i64 0)]) 5 56:=by unfold TI;kernel_rfl
theorem Of:placesOf Tryz.prog 284=[(0,1),(1,1),(2,1),(3,1),(4,1)].map some:=by kernel_rfl
theorem E79:Enters Tryz.prog 79:=enters Tryz.func79 rfl (by decide)
theorem Jv:Enters Tryz.prog 145:=enters Tryz.func145 rfl (by decide)
theorem YU:Enters Tryz.prog 202:=enters Tryz.func202 rfl (by decide)
end TKErsA
open TKErsA
set_option maxRecDepth 10000
abbrev Er:=Fd×Int
abbrev RT.er:RT Er:=RT.pair RT.fd (RT.int .i64)
theorem er0:Part RT.er RT.fd (fun p=>p.1) 0:=kj _ _
theorem er1:Part RT.er (RT.int .i64) (fun p=>p.2) 2:=fR _ _
theorem Oj {M:aD} {w:World} {p:Er} {v:Value} (h:RT.er.V M w p v):v= .agg #[.string ⟨p.1.1.toArray⟩,.string ⟨p.1.2.toArray⟩,.int .i64 p.2]∧(p.1.1.length≤140737488355328∧p.1.2.length≤140737488355328)∧ -9223372036854775808≤p.2∧p.2≤9223372036854775807:=by
 obtain⟨vs,⟨va,vb,rfl,⟨vc,vd,rfl,⟨rfl,h1⟩,⟨rfl,h2⟩⟩,⟨rfl,h3⟩⟩,rfl⟩:=h;exact⟨rfl,⟨h1,h2⟩,h3⟩
theorem Ax {M:aD} (w0:World) (hM:Lt M w0):
  Spec Tryz.prog 202 #[.pointer none] w0 (fun v' w'=>∃bc,v'= .pointer (some ⟨bc,0,none⟩)∧w0.heap.size≤bc∧Step M w0 (ins M bc) w' aw∧Cu 284 [] (-1) (ins M bc) w' bc):=by
 refine aR (args:=[_]) (fn:=Tryz.f202) Tryz.func202 rfl (n:=12) Tryz.ntmps202 (ai (ad (ah rfl rfl (ab (ai (ai (ad (ae rfl rfl (Rg.oa cF rfl rfl rfl (ab (T.EO rfl (rfl) ?_)))))))))));refine ad ?_;refine aJ rfl rfl Jv (qJ (l:=[]) hM fZ (fun p h=>by cases h) (by decide) (by decide) (by decide)) (fun r2 w2 hc=>?_);obtain⟨s2,fY,_⟩:=hc;obtain⟨p,rfl,hp⟩:=fY rfl;obtain⟨q,rfl⟩:=hp.jB;refine ae rfl rfl (bu rfl rfl rfl (bu rfl rfl rfl (ah rfl rfl (ab (ai (ad (ae rfl rfl (dO (places:=[(0,1),(1,1),(2,1),(3,1),(4,1)]) bC Oe Of rfl ⟨_,_,rfl,rfl,_,_,rfl,rfl,_,_,rfl,rfl,rfl⟩ (out:=[_,_,.slice none 0 0,_,.int .i64 0]) ⟨0,[_],rfl,rfl,by simp[Value.cells],1,[_],rfl,rfl,by simp[Value.cells],3,[_],rfl,rfl,by simp[Value.cells],rfl⟩ ?_))))))));refine iJ M rfl rfl (fun bc w3 h1 LF hS s3=>?_);refine ah rfl rfl (ab (aI ?_));exact aO rfl rfl ⟨bc,rfl,by have:=s2.size;omega,s2.ax s3,.pointer (some q),.slice none 0 0,-1,0,.inl rfl,hS,hp.le (by decide) s3.le,fZ,by decide,by decide,fun _=>rfl,fun h=>by omega⟩
theorem Ay {M:aD} {v:Value} {l:List Po} (w0:World) (hM:Lt M w0) (h:cf RT.li M w0 v (hG l)∨(v= .pointer none∧l=[])):Spec Tryz.prog 202 #[v] w0 (fun v' w'=>∃bc,v'= .pointer (some ⟨bc,0,none⟩)∧w0.heap.size≤bc∧Step M w0 (ins M bc) w' aw∧Cu 284 l (-1) (ins M bc) w' bc):=by
 rcases h with h|⟨rfl,rfl⟩
 ·obtain⟨q,rfl⟩:=h.jB;exact Eo h
 ·exact Ax w0 hM
theorem yo {M:aD} {s:Se} {ls:List (List Po)} {t:Fd} {v0:Value} (w0:World) (hM:Lt M w0) (hs:cf RT.se M w0 v0 s) (yk:ya s.2.2.1) (EG:s.2.2.2=ls.map hG) (JI:s.2.2.1.length=ls.length) (h1:t.1.length≤140737488355328) (h2:t.2.length≤140737488355328):
  Spec Tryz.prog 150 #[v0,kv t] w0 (fun v' w'=>∃bc,v'= .pointer (some ⟨bc,0,none⟩)∧w0.heap.size≤bc∧Step M w0 (ins M bc) w' aw∧Cu 284 (o3 s.2.2.1 ls (du t)) (-1) (ins M bc) w' bc):=by
 refine aR (args:=[_,_]) (fn:=Tryz.f150) Tryz.func150 rfl (n:=19) Tryz.ntmps150 ?_;have S:Step M w0 M w0 aw:=(al _ _).bN (fun _ h=>h.elim) (fun _ h=>h.elim);refine ai (ad ?_);refine Rg.ly (A:=RT.fd) rfl rfl hM (zK h1 h2) rfl (fun u0 w1 cA s0 _=>?_);replace hs:=hs.le (by decide) s0.le;replace hM:=s0.lt hM;have:=S.size;replace S:=S.ax s0;refine ah rfl rfl (ab (ai ?_));apply T.draw (M:=M) mixed [b5.eq v0,b5.eq v0,b5.ptr ((RT.di).ptr) s.2.2,b5.ptr RT.di s.2.2,b5.eq (kv t),b5.eq (sv (du t)),(b5.mk' (fun v w=>∃p,v= .tuple #[p,.bool (decide (du t∈s.2.2.1))]∧rv s.2.2 (du t) M p w) (fun⟨p,h1,h2⟩ s=>⟨p,h1,h2.step s⟩)),(b5.mk' (fun v w=>∃p,v= .tuple #[p,.bool (decide (du t∈s.2.2.1))]∧rv s.2.2 (du t) M p w) (fun⟨p,h1,h2⟩ s=>⟨p,h1,h2.step s⟩)),(b5.mk' (fun v w=>rv s.2.2 (du t) M v w) (fun h s=>h.step s)),b5.eq (.bool (decide (du t∈s.2.2.1))),(b5.mk' (fun v w=>rv s.2.2 (du t) M v w) (fun h s=>h.step s)),b5.eq (.bool (decide (du t∈s.2.2.1)))]
 ·rfl
 ·refine aQ ?_ ?_
  ·intro wD E sD;refine ae rfl rfl ?_;exact ab ⟨rfl,rfl,_,rfl,rfl,al _ _⟩
  refine aQ ?_ ?_
  ·intro wD E sD;refine ay (aC rfl hs.jB rfl ?_);exact ab ⟨rfl,rfl,_,rfl,rfl,al _ _⟩
  refine aQ ?_ ?_
  ·intro wD E sD;refine ay ?_;refine aM (M:=M) (A:=RT.se) (B:=(RT.di).ptr) Tryz.underlying141 rfl rfl Oc (by decide) se2 rfl rfl (by decide) hs sD.le (fun uf yi=>?_);exact ab ⟨rfl,rfl,_,rfl,yi,al _ _⟩
  refine aQ ?_ ?_
  ·intro wD E sD;intro v2 yB;refine bZ (M:=M) Tryz.underlying139 rfl rfl rfl rfl rfl (show cf ((RT.di).ptr) M wD v2 s.2.2 from yB) (aq _ _) (fun vd hvd=>?_);exact ab ⟨rfl,rfl,_,rfl,C2.1 hvd,al _ _⟩
  refine aQ ?_ ?_
  ·intro wD E sD;refine cM (M:=M) (A:=RT.fd) cg rfl sT (by decide) rfl rfl rfl cA sD.le (fun vt Ob=>?_);obtain rfl:=l5 Ob;exact ab ⟨rfl,rfl,_,rfl,rfl,al _ _⟩
  refine aQ ?_ ?_
  ·intro wD E sD;refine ay ?_;refine aJ rfl rfl Tx (Em (t:=t) _ (sD.lt hM) h1 h2) (fun r5 w5 hc=>?_);obtain⟨rfl,s5⟩:=hc;exact ab ⟨rfl,rfl,_,rfl,rfl,s5⟩
  refine aQ ?_ ?_
  ·intro wD E sD;intro v3 uT;refine ay (ay ?_);refine aJ rfl rfl E79 (find_spec (k:=du t) _ (sD.lt hM) (show cf RT.di M wD v3 s.2.2 from uT) yk (by rw[EG,de];exact JI)) (fun r6 w6 hc=>?_);obtain⟨s6,hr⟩:=hc;refine ab ⟨rfl,rfl,_,rfl,?_,s6⟩;rcases hr with⟨j,p,tl,rfl,h3,h4,h5⟩|⟨rfl,h3⟩
   ·exact⟨p,by rw[decide_eq_true (aN h3)],.inl ⟨j,tl,h3,h4,h5⟩⟩
   ·exact⟨_,by rw[decide_eq_false h3],.inr ⟨rfl,h3⟩⟩
  refine aQ ?_ ?_
  ·intro wD E sD;intro v6 nw;refine ae rfl rfl ?_;exact ab ⟨rfl,rfl,_,rfl,nw,al _ _⟩
  refine aQ ?_ ?_
  ·intro wD E sD;intro v7 zJ;obtain⟨p,rfl,hp⟩:=zJ;refine bu rfl rfl rfl ?_;exact ab ⟨rfl,rfl,_,rfl,hp,al _ _⟩
  refine aQ ?_ ?_
  ·intro wD E sD;intro v7 zJ;obtain⟨p,rfl,hp⟩:=zJ;refine bu rfl rfl rfl ?_;exact ab ⟨rfl,rfl,_,rfl,rfl,al _ _⟩
  refine aQ ?_ ?_
  ·intro wD E sD;intro v8 C3;intro v6 nw;refine ay (ay ?_);intro v2 yB;intro v3 uT;refine ay (ay ?_);intro v6 nw;intro v7 zJ;intro v8 C3;refine ah rfl rfl ?_;exact ab ⟨rfl,rfl,_,rfl,C3,al _ _⟩
  refine aQ ?_ ?_
  ·intro wD E sD;refine ay ?_;intro v10 NS;refine ay (ay ?_);intro v2 yB;intro v3 uT;refine ay (ay ?_);intro v6 nw;intro v7 zJ;intro v8 C3;refine ay ?_;intro v10 NS;refine ah rfl rfl ?_;exact ab ⟨rfl,rfl,_,rfl,rfl,al _ _⟩
  exact cb.nil
 ·intro FL ko;refine ay (ay ?_);intro JF ru;intro Q9 GI;refine ay (ay ?_);intro aga abY;intro XD RG;intro agb abZ;refine ay ?_;intro Sm Ce;refine ay ?_;replace Ce:rv s.2.2 (du t) M Sm FL:=Ce;have hF:=Ce;replace hM:=ko.lt hM;replace S:=S.ax ko;replace hs:=hs.le (by decide) ko.le;replace cA:=cA.le (by decide) ko.le;refine ai (ad (ae rfl rfl ?_))
  refine aJ rfl rfl YU (Ay (l:=o3 s.2.2.1 ls (du t)) _ hM (by
   rcases hF with⟨j,tl,OK,qj,JX⟩|⟨h,kx⟩
   ·rw[EG,dZ]at qj;obtain⟨l,UC,rfl⟩:=oA.1 qj;exact .inl (by rw[Od yk.nodup OK UC];exact JX)
   ·exact .inr ⟨h,HD kx⟩)) (fun r2 w2 hc=>?_)
  obtain⟨bc,rfl,ZT,s2,hcu⟩:=hc;refine ah rfl rfl (ab (aI ?_));exact aO rfl rfl ⟨bc,rfl,by have:=S.size;omega,S.ax s2,hcu⟩
end Go.K
namespace Go.K
open Go.Proofs
namespace TKErsB
theorem YV:Enters Tryz.prog 58:=enters Tryz.func58 rfl (by decide)
theorem YW:Enters Tryz.prog 150:=enters Tryz.func150 rfl (by decide)
theorem Sn:Enters Tryz.prog 151:=enters Tryz.func151 rfl (by decide)
end TKErsB
open TKErsB
set_option maxRecDepth 10000
def xc (l:List Po) (sq:List Int) (t:Int):List Int:=(l.map (·.1)).takeWhile fun d=>decide (Av sq d<t)
theorem KW {α:Type} {p:α→Bool}:∀{xs:List α} {k:Nat} {d:α},(∀(j:Nat) x,j<k→xs[j]? =some x→p x=true)→xs[k]? =some d→p d=true→(xs.takeWhile p)[k]? =some d
 |[],_,_,_,h,_=>by simp at h
 |x::xs,0,d,_,h,hp=>by simp at h;subst h;simp[List.takeWhile_cons,hp]
 |x::xs,k+1,d,h1,h,hp=>by
  rw[List.takeWhile_cons,if_pos (h1 0 x (by omega) rfl),List.getElem?_cons_succ];exact KW (fun j y hj hy=>h1 (j+1) y (by omega) (by simpa using hy)) (by simpa using h) hp
theorem Cf {α:Type} {p:α→Bool}:∀{xs:List α} {k:Nat},(∀(j:Nat) x,j<k→xs[j]? =some x→p x=true)→k≤xs.length→(∀d,xs[k]? =some d→p d=false)→(xs.takeWhile p).length=k
 |[],k,_,h,_=>by simp at h;simp[h]
 |x::xs,0,_,_,h=>by rw[List.takeWhile_cons,if_neg (by rw[h x rfl];decide)];rfl
 |x::xs,k+1,h1,h2,h=>by
  rw[List.takeWhile_cons,if_pos (h1 0 x (by omega) rfl),cq,Cf (k:=k) (fun j y hj hy=>h1 (j+1) y (by omega) (by simpa using hy)) (by simpa using h2) (fun d hd=>h d (by simpa using hd))]
structure YX (l:List Po):Prop where
 may:dY (-1) l=true
 ps:∀p∈l,p.2.length≤1099511627776
 by_:(dz (-1) l).length≤1099511627776
 ln:l.length≤1099511627776
theorem Cg {M:aD} {s:Se} {e:Er} {v0 ve:Value} (w0:World) (hM:Lt M w0) (hs:cf RT.se M w0 v0 s) (he:RT.er.V M w0 e ve):
  Spec Tryz.prog 98 #[v0,ve] w0 (fun v w=>∃bs u,v= .func (.func 149) #[] [.pointer (some ⟨bs,0,none⟩),u].toArray∧w.heap[bs]? =some (.cells #[v0] 25 (0,0))∧cf RT.er M w u e∧w0.heap.size≤bs∧Step M w0 M w aw):=by
 refine aR (args:=[_,_]) (fn:=Tryz.f98) Tryz.func98 rfl (n:=6) Tryz.ntmps98 (ai (ad ?_));refine iJ M rfl rfl (fun bs w1 p1 q1 g1 s1=>?_);rw[qI hs]at g1;replace s1:=s1.back;refine Rg.ly (A:=RT.er) (a:=e) rfl rfl (s1.lt hM) (he.le s1.le) rfl (fun u w2 hu s2 _=>?_);refine ah rfl rfl (ab (ai (ad (gG (xs:=[]) (ys:=[.tmp 2,.tmp 3]) rfl rfl rfl (ah rfl rfl (ab (aI ?_)))))));exact aO rfl rfl ⟨bs,u,rfl,s2.aE g1,hu,p1,s1.ax s2⟩
theorem Az {bs yl:Nat} {u v0:Value} {s:Se} {ls:List (List Po)} {e:Er} {J:Nat→aD→World→Prop} {M:aD} {Jx:World→Prop} (w0:World) (yk:ya s.2.2.1) (EG:s.2.2.2=ls.map hG) (JI:s.2.2.1.length=ls.length) (Db:YX (o3 s.2.2.1 ls (du e.1))) (h1:e.1.1.length≤140737488355328) (h2:e.1.2.length≤140737488355328) (Jq:∀i M w,J i M w→w.heap[bs]? =some (.cells #[v0] 25 (0,0))∧Lt M w∧cf RT.se M w v0 s∧cf RT.er M w u e) (iI:∀i M w M' w' N,J i M w→Step M w M' w' N→(∀b,N b→w0.heap.size≤b∧(b<w.heap.size→∃cs,w.heap[b]? =some (.cells cs 284 (0,0))))→J i M' w') (hy:∀(i:Nat) (M:aD) (w:World) (d:Int),J i M w→(xc (o3 s.2.2.1 ls (du e.1)) s.2.1 e.2)[i]? =some d→su Tryz.prog yl [.int .i64 d].toArray w (fun r w'=>∃b,r= .bool b∧(b=true→∃M' N,J (i+1) M' w'∧Step M w M' w' N∧∀k,N k→∀cs,w.heap[k]? ≠some (.cells cs 284 (0,0)))∧(b=false→Jx w'))) (h0:J 0 M w0):
  Spec Tryz.prog 149 #[.func (.yield yl) #[] #[],.pointer (some ⟨bs,0,none⟩),u] w0 (fun _ w=>(∃M',J (xc (o3 s.2.2.1 ls (du e.1)) s.2.1 e.2).length M' w)∨Jx w):=by
 obtain⟨gb,hM,hs,hu⟩:=Jq _ _ _ h0;refine aR (args:=[_,_,_]) (fn:=Tryz.f149) Tryz.func149 rfl (n:=28) Tryz.ntmps149 (ai (ad (az qQ rfl rfl rfl gb rfl (br (v':=v0) rfl ?_))));refine aM (M:=M) (A:=RT.er) (B:=RT.fd) Tryz.underlying171 rfl rfl sT (by decide) er0 rfl rfl (by decide) hu (aq _ _) (fun uf yi=>?_);refine cM (M:=M) (A:=RT.fd) cg rfl sT (by decide) rfl rfl rfl yi (aq _ _) (fun vt Ob=>?_);obtain rfl:=l5 Ob;refine aJ rfl rfl YW (yo (t:=e.1) _ hM hs yk EG JI h1 h2) (fun r0 w1 hc=>?_);obtain⟨bc,rfl,hz,s1,hC⟩:=hc;have YY:=iI _ _ _ _ _ _ h0 s1 (fun b h=>h.elim);generalize ins M bc=M0 at s1 hC YY;refine ah rfl rfl (ab (ai (ad (ae rfl rfl ?_))));obtain⟨_,rG,_,_⟩:=Jq _ _ _ YY;refine aJ rfl rfl Sn (xb hC rG Db.may Db.ps Db.by_ Db.ln) (fun r2 w2 h=>?_);obtain⟨rfl,s2,Sq⟩:=h;have hJ2:=iI _ _ _ _ _ _ YY s2 (fun b (h:b=bc)=>⟨by omega,fun _=>by(obtain⟨_,_,_,_,_,h9,_⟩:=hC;exact⟨_,by rw[h];exact h9⟩)⟩);have JY:pV (o3 s.2.2.1 ls (du e.1)) (-1)=((0:Nat):Int):=by unfold pV;rw[if_pos (by omega)];rfl
 rw[JY]at Sq ⊢;refine ah rfl rfl (ab (a7 ?_));refine dd (σ:=Nat) (fun k=>[(0,.func (.yield yl) #[] #[]),(1,.pointer (some ⟨bs,0,none⟩)),(2,u),(4,.pointer (some ⟨bc,0,none⟩)),(5,.int .i64 (eJ (o3 s.2.2.1 ls (du e.1)) (k:Int)))]) (fun k w=>k≤(o3 s.2.2.1 ls (du e.1)).length∧(∀(j:Nat) x,j<k→((o3 s.2.2.1 ls (du e.1)).map (·.1))[j]? =some x→decide (Av s.2.1 x<e.2)=true)∧∃M1,J k M1 w∧Cu 284 (o3 s.2.2.1 ls (du e.1)) (k:Int) M1 w bc) (fun k=>(o3 s.2.2.1 ls (du e.1)).length-k) 0 (.cons rfl (.cons rfl (.cons rfl (.cons rfl (.cons rfl .nil))))) ?_ ?_
 ·exact⟨bG _,fun j x h=>absurd h (mM _),_,hJ2,Sq⟩
 ·rintro k w ⟨hk,Fc,M1,hJ,Sq⟩;refine ai (ai ?_);obtain⟨gb2,Kj,mU,rB⟩:=Jq _ _ _ hJ;by_cases Sr:eJ (o3 s.2.2.1 ls (du e.1)) (k:Int)<2147483648
  ·obtain⟨d,ps,hx,Lv⟩:∃d ps,(o3 s.2.2.1 ls (du e.1))[k]? =some (d,ps)∧eJ (o3 s.2.2.1 ls (du e.1)) (k:Int)=d:=by
    rcases jm (o3 s.2.2.1 ls (du e.1)) (k:Int)with⟨h0,_⟩|⟨j2,d2,ps2,qj,TN,h3,_⟩|⟨h0,h1,_⟩
    ·omega
    ·have:j2=k:=by omega
     subst this;exact⟨d2,ps2,TN,h3⟩
    ·omega
   have Dq:=(au.1 hx).1;apply T.draw (M:=M1) mixed [b5.eq _,b5.eq _,b5.eq (.bool true),b5.eq v0,b5.eq _,b5.eq (.int .i64 (Av s.2.1 (eJ (o3 s.2.2.1 ls (du e.1)) (k:Int)))),b5.ptr (RT.int .i64) e.2,b5.eq (.int .i64 e.2),b5.eq _,b5.eq _]
   ·rfl
   ·refine aQ ?_ ?_
    ·intro wD E sD;refine ae rfl rfl ?_;exact ab ⟨rfl,rfl,_,rfl,rfl,al _ _⟩
    refine aQ ?_ ?_
    ·intro wD E sD;refine ay (bY rfl rfl rfl ?_);exact ab ⟨rfl,rfl,_,rfl,rfl,al _ _⟩
    refine aQ ?_ ?_
    ·intro wD E sD;refine ay (ae rfl rfl ?_);refine ab ⟨rfl,rfl,_,rfl,?_,al _ _⟩;exact congrArg Value.bool (decide_eq_true Sr)
    refine aQ ?_ ?_
    ·intro wD E sD;refine ay (ak rfl rfl (az qQ rfl rfl rfl (sD.aE gb2) rfl ?_));exact ab ⟨rfl,rfl,_,rfl,rfl,al _ _⟩
    refine aQ ?_ ?_
    ·intro wD E sD;refine ay (ak rfl rfl (ae rfl rfl ?_));exact ab ⟨rfl,rfl,_,rfl,rfl,al _ _⟩
    refine aQ ?_ ?_
    ·intro wD E sD;refine ay (ay (ay (ay (ak rfl rfl ?_))));refine aJ rfl rfl YV (wZ _ (mU.le (by decide) sD.le)) (fun r5 w5 hc=>?_);obtain⟨rfl,rfl⟩:=hc;exact ab ⟨rfl,rfl,_,rfl,rfl,al _ _⟩
    refine aQ ?_ ?_
    ·intro wD E sD;refine ay (ak rfl rfl ?_);refine aM (M:=M1) (A:=RT.er) (B:=RT.int .i64) Tryz.underlying171 rfl rfl I3 (by decide) er1 rfl rfl (by decide) rB sD.le (fun uf yi=>?_);exact ab ⟨rfl,rfl,_,rfl,yi,al _ _⟩
    refine aQ ?_ ?_
    ·intro wD E sD;intro v6 nw;refine ay (ak rfl rfl ?_);refine cn (M:=M1) an rfl rfl (show cf (RT.int .i64) M1 wD v6 e.2 from nw) (aq _ _) (fun l2=>?_);exact ab ⟨rfl,rfl,_,rfl,rfl,al _ _⟩
    refine aQ ?_ ?_
    ·intro wD E sD;refine ay (ay (ay (ak rfl rfl (bY rfl rfl rfl ?_))));exact ab ⟨rfl,rfl,_,rfl,rfl,al _ _⟩
    refine aQ ?_ ?_
    ·intro wD E sD;refine ay (ay (aP rfl rfl rfl ?_));exact ab ⟨rfl,rfl,_,rfl,rfl,al _ _⟩
    exact cb.nil
   ·intro TA vY;refine ay (ay (ay (ay (ay (ay ?_)))));intro agh ab0;refine ay (ay (ay ?_));have HZ:=iI _ _ _ _ _ _ hJ vY (fun b h=>h.elim);have YZ:=Sq.step vY (fun h=>h);refine bK rfl (fun c2=>?_) (fun c2=>?_)
    ·refine aT (ai (a7 (ai (ad (ae rfl rfl (ae rfl rfl ?_))))));refine Rg.yield rfl (vs:=[.int .i64 (eJ (o3 s.2.2.1 ls (du e.1)) (k:Int))]) rfl rfl (hy k M1 _ _ HZ (by rw[Lv];exact KW Fc (by rw[dZ,hx];rfl) (by rw[←Lv];simpa using c2))) (fun r4 w5 h5=>?_);obtain⟨b,rfl,ON,nV⟩:=h5;refine km rfl rfl (br (v':= .bool (decide (¬b=true))) (by simp) (ab ?_));refine bK rfl (fun c4=>?_) (fun c4=>?_)
     ·refine aI ?_;exact Cn rfl (.inr (nV (by simpa using c4)))
     ·refine aT (ad (ae rfl rfl ?_));obtain⟨M2,N2,TY,s4,hN4⟩:=ON (fp.1 c4);have hC4:=YZ.step s4 (fun h=>by obtain⟨_,_,_,_,_,h9,_⟩:=YZ;exact hN4 _ h _ h9);obtain⟨_,NV,_,_⟩:=Jq _ _ _ TY;refine aJ rfl rfl Sn (xb hC4 NV Db.may Db.ps Db.by_ Db.ln) (fun r6 w6 h=>?_);obtain⟨rfl,s6,hC6⟩:=h;have hJ6:=iI _ _ _ _ _ _ TY s6 (fun b (h:b=bc)=>⟨by omega,fun _=>by(obtain⟨_,_,_,_,_,h9,_⟩:=hC4;exact⟨_,by rw[h];exact h9⟩)⟩);have JY:pV (o3 s.2.2.1 ls (du e.1)) (k:Int)=((k+1:Nat):Int):=by unfold pV;rw[if_pos (by omega)];rfl
      rw[JY]at hC6 ⊢;refine ah rfl rfl (ab ?_);refine⟨rfl,k+1,(.cons rfl (.cons rfl (.cons rfl (.cons rfl (.cons rfl .nil))))),?_,?_⟩
      ·exact⟨by omega,fun j x hj Ss=>by
        rcases ec j k with h|h
        ·exact Fc j x h Ss
        ·rw[show j=k by omega,dZ,hx]at Ss;cases Ss;rw[←Lv];simpa using c2,_,hJ6,hC6⟩
      ·omega
    ·refine cB ?_
     first|refine fF.nil ?_|simp+decide only[rz,jO,if_true,if_false]|skip
     have el:(xc (o3 s.2.2.1 ls (du e.1)) s.2.1 e.2).length=k:=Cf Fc (by rw[de];exact hk) (fun d' Ct=>by
      rw[dZ]at Ct;obtain⟨p,hp,rfl⟩:=oA.1 Ct;have Y0:eJ (o3 s.2.2.1 ls (du e.1)) (k:Int)=p.1:=ig hp
      first
      |(rw[Y0]at c2;simpa using c2)
      |(have:=nN Db.may hp;omega))
     exact jx rfl (.inl ⟨_,by rw[el];exact HZ⟩)
  ·apply T.draw (M:=M1) mixed [b5.eq _,b5.eq _,b5.eq (.bool false),b5.eq undef,b5.eq undef,b5.eq undef,b5.eq undef,b5.eq undef,b5.eq undef,b5.eq _]
   ·rfl
   ·refine aQ ?_ ?_
    ·intro wD E sD;refine ae rfl rfl ?_;exact ab ⟨rfl,rfl,_,rfl,rfl,al _ _⟩
    refine aQ ?_ ?_
    ·intro wD E sD;refine ay (bY rfl rfl rfl ?_);exact ab ⟨rfl,rfl,_,rfl,rfl,al _ _⟩
    refine aQ ?_ ?_
    ·intro wD E sD;refine ay (ae rfl rfl ?_);refine ab ⟨rfl,rfl,_,rfl,?_,al _ _⟩;exact congrArg Value.bool (decide_eq_false Sr)
    refine aQ ?_ ?_
    ·intro wD E sD;refine ay ?_;exact ao rfl rfl rfl rfl (ab ⟨rfl,rfl,_,rfl,rfl,al _ _⟩)
    refine aQ ?_ ?_
    ·intro wD E sD;refine ay ?_;exact ao rfl rfl rfl rfl (ab ⟨rfl,rfl,_,rfl,rfl,al _ _⟩)
    refine aQ ?_ ?_
    ·intro wD E sD;refine ay (ay (ay (ay ?_)));exact ao rfl rfl rfl rfl (ab ⟨rfl,rfl,_,rfl,rfl,al _ _⟩)
    refine aQ ?_ ?_
    ·intro wD E sD;refine ay ?_;exact ao rfl rfl rfl rfl (ab ⟨rfl,rfl,_,rfl,rfl,al _ _⟩)
    refine aQ ?_ ?_
    ·intro wD E sD;refine ay (ay ?_);exact ao rfl rfl rfl rfl (ab ⟨rfl,rfl,_,rfl,rfl,al _ _⟩)
    refine aQ ?_ ?_
    ·intro wD E sD;refine ay (ay (ay ?_));exact ao rfl rfl rfl rfl (ab ⟨rfl,rfl,_,rfl,rfl,al _ _⟩)
    refine aQ ?_ ?_
    ·intro wD E sD;refine ay (ay (av rfl rfl rfl ?_));exact ab ⟨rfl,rfl,_,rfl,rfl,al _ _⟩
    exact cb.nil
   ·intro TA vY;refine ay (ay (ay (ay (ay (ay (ay (ay (ay (ay ?_)))))))));have HZ:=iI _ _ _ _ _ _ hJ vY (fun b h=>h.elim);have YZ:=Sq.step vY (fun h=>h);refine fL rfl (cB ?_)
    first|refine fF.nil ?_|simp+decide only[rz,jO,if_true,if_false]|skip
    have el:(xc (o3 s.2.2.1 ls (du e.1)) s.2.1 e.2).length=k:=Cf Fc (by rw[de];exact hk) (fun d' Ct=>by
     rw[dZ]at Ct;obtain⟨p,hp,rfl⟩:=oA.1 Ct;have Y0:eJ (o3 s.2.2.1 ls (du e.1)) (k:Int)=p.1:=ig hp
     first
     |(rw[Y0]at c2;simpa using c2)
     |(have:=nN Db.may hp;omega))
    exact jx rfl (.inl ⟨_,by rw[el];exact HZ⟩)
end Go.K
namespace Go.K
open Go.Proofs
set_option maxRecDepth 10000
def Ol (K:aD→World→Prop) (C:TypeId) (gf:FuncId) (lb:Array Value) (xs:List Int):Prop:=
 ∀{yl:Nat} {J:Nat→aD→World→Prop} {M:aD} {Jx:World→Prop} (w0:World) (_:∀i M w,J i M w→Lt M w∧K M w)
  (_:∀i M w M' w' N,J i M w→Step M w M' w' N→(∀b,N b→w0.heap.size≤b∧(b<w.heap.size→∃cs,w.heap[b]? =some (.cells cs C (0,0))))→J i M' w')
  (_:∀(i:Nat) (M:aD) (w:World) (d:Int),J i M w→xs[i]? =some d→su Tryz.prog yl [.int .i64 d].toArray w (fun r w'=>∃b,r= .bool b∧(b=true→∃M' N,J (i+1) M' w'∧Step M w M' w' N∧∀k,N k→∀cs,w.heap[k]? ≠some (.cells cs C (0,0)))∧(b=false→Jx w'))) (_:J 0 M w0),
  Spec Tryz.prog gf (#[.func (.yield yl) #[] #[]]++lb) w0 (fun _ w=>(∃M',J xs.length M' w)∨Jx w)
theorem AA {s:Se} {ls:List (List Po)} {e:Er} {v0 u:Value} {bs:Nat} (yk:ya s.2.2.1) (EG:s.2.2.2=ls.map hG) (JI:s.2.2.1.length=ls.length) (Db:YX (o3 s.2.2.1 ls (du e.1))) (h1:e.1.1.length≤140737488355328) (h2:e.1.2.length≤140737488355328):
  Ol (fun M w=>w.heap[bs]? =some (.cells #[v0] 25 (0,0))∧¬M bs∧cf RT.se M w v0 s∧cf RT.er M w u e) 284 149 #[.pointer (some ⟨bs,0,none⟩),u] (xc (o3 s.2.2.1 ls (du e.1)) s.2.1 e.2):=
 fun w0 hk iI hy h0=>Az w0 yk EG JI Db h1 h2 (fun i M w h=>⟨(hk i M w h).2.1,(hk i M w h).1,(hk i M w h).2.2.2.1,(hk i M w h).2.2.2.2⟩) iI hy h0
theorem AB {s:Se} {e:Er} {v0 u:Value} {bs:Nat} {M M':aD} {w w':World} (h:w.heap[bs]? =some (.cells #[v0] 25 (0,0))∧¬M bs∧cf RT.se M w v0 s∧cf RT.er M w u e) (l:Le M w M' w'):w'.heap[bs]? =some (.cells #[v0] 25 (0,0))∧¬M' bs∧cf RT.se M' w' v0 s∧cf RT.er M' w' u e:=
 have hb:=l bs (aj h.1) h.2.1
 ⟨hb.2.trans h.1,hb.1,h.2.2.1.le (by decide) l,h.2.2.2.le (by decide) l⟩
end Go.K
namespace Go.K
open Go.Proofs
namespace TKSet
theorem AD:TI Tryz.prog 131 (.slice none 0 0) 1 24:=by unfold TI;kernel_rfl
theorem Y1:TI Tryz.prog 133 (.agg #[(.int .i64 0),(.slice none 0 0)]) 2 32:=by unfold TI;kernel_rfl
theorem qM:TI Tryz.prog 190 (.int .u64 0) 1 8:=by unfold TI;kernel_rfl
theorem Y2:placesOf Tryz.prog 133=[(0,1),(1,1)].map some:=by kernel_rfl
theorem Y3:Enters Tryz.prog 117:=enters Tryz.func117 rfl (by decide)
theorem Su:Enters Tryz.prog 174:=enters Tryz.func174 rfl (by decide)
theorem Y4:Enters Tryz.prog 175:=enters Tryz.func175 rfl (by decide)
end TKSet
open TKSet
set_option maxRecDepth 10000
theorem Dd {M:aD} {w0:World} {n:Nat} {ws:List Nat} {bs bw:Nat} (h:gQ 133 190 n ws M w0 bs bw) {i:Int}:
  Spec Tryz.prog 174 #[.pointer (some ⟨bs,0,none⟩),.int .i64 i] w0 (fun v' w'=>v'= .bool (decide (0≤i∧i<n))∧w0=w'):=by
 have hS:=h.s;have hW:=h.w;have hlen:=h.len;have fY:=h.ok;have OC:=h.nn;refine aR (args:=[_,_]) (fn:=Tryz.f174) Tryz.func174 rfl (n:=15) Tryz.ntmps174 (ai (ad (ah rfl rfl (ab (ai (ad (ae rfl rfl (dh rfl rfl rfl (ae rfl rfl ?_)))))))));refine aL (g:=7) rfl (fun fu=>?_) (fun fu=>?_)
 ·refine ak rfl rfl (ae rfl rfl (ak rfl rfl (ae rfl rfl (ak rfl rfl (aC rfl ⟨_,rfl⟩ rfl (ak rfl rfl (aB fV rfl rfl I3 (by decide) rfl rfl (ak rfl rfl (az an rfl rfl rfl (by assumption) rfl (ak rfl rfl (bY rfl rfl rfl ?_)))))))))));refine aP rfl rfl rfl (ah rfl rfl (ab (aI ?_)))
  first
  |exact aO rfl rfl ⟨congrArg Value.bool (decide_eq_decide.2 (by omega)),rfl⟩
  |exact aO rfl rfl ⟨congrArg Value.bool (eQ (decide_eq_false (by omega))),rfl⟩
 ·refine ao rfl rfl rfl rfl (ao rfl rfl rfl rfl (ao rfl rfl rfl rfl (ao rfl rfl rfl rfl (ao rfl rfl rfl rfl (ao rfl rfl rfl rfl (av rfl rfl rfl (ah rfl rfl (ab (aI ?_)))))))))
  first
  |exact aO rfl rfl ⟨congrArg Value.bool (decide_eq_decide.2 (by omega)),rfl⟩
  |exact aO rfl rfl ⟨congrArg Value.bool (eQ (decide_eq_false (by omega))),rfl⟩
theorem HI {M:aD} {w0:World} {n:Nat} {ws:List Nat} {bs bw:Nat} (h:gQ 133 190 n ws M w0 bs bw) {i:Int}:
  Spec Tryz.prog 175 #[.pointer (some ⟨bs,0,none⟩),.int .i64 i] w0 (fun v' w'=>v'= .bool (J4 n ws i)∧w0=w'):=by
 have hS:=h.s;have hW:=h.w;have hlen:=h.len;have fY:=h.ok;have OC:=h.nn;refine aR (args:=[_,_]) (fn:=Tryz.f175) Tryz.func175 rfl (n:=23) Tryz.ntmps175 (ai (ad (ah rfl rfl (ab (ai (ad (ae rfl rfl (ae rfl rfl ?_))))))));refine aJ rfl rfl Su (Dd h) (fun r wc h=>?_);obtain⟨rfl,rfl⟩:=h;refine ae rfl rfl ?_;refine aL (g:=8) rfl (fun eC=>?_) (fun eC=>?_)
 ·obtain⟨j,rfl⟩:∃j:Nat,i=j:=⟨i.toNat,by omega⟩;refine ak rfl rfl (ae rfl rfl (ak rfl rfl (aC rfl ⟨_,rfl⟩ rfl (ak rfl rfl (aB fV rfl rfl AD (by decide) rfl rfl (ak rfl rfl (az db rfl rfl rfl (by assumption) rfl (ak rfl rfl (ae rfl rfl (ak rfl rfl (Rg.uC rfl rfl rfl (by omega) ?_)))))))))));refine ak rfl rfl (Rg.A3 db qM rfl rfl rfl (by omega) (ak rfl rfl (az oz rfl rfl rfl hW (v:= .int .u64 ((ws.getD (j/64) 0:Nat):Int)) (by rw[show(((j:Int)/64)).toNat=j/64 from by omega];exact hU (by omega)) (ak rfl rfl (ae rfl rfl (ak rfl rfl (Rg.rY rfl rfl rfl (by omega) (ak rfl rfl (Rg.shr rfl rfl rfl (by omega) (br (v':= .int .u64 ((ws.getD (j/64) 0/2^(j%64):Nat):Int)) (congrArg _ (by rw[show((j:Int)%64)=((j%64:Nat):Int)from by omega];exact UI _ _ (by omega))) (ak rfl rfl ?_)))))))))));refine Rg.and rfl rfl rfl (br (v':= .int .u64 ((ws.getD (j/64) 0/2^(j%64)%2:Nat):Int)) (congrArg _ (by have:=Fe (ws.getD (j/64) 0/2^(j%64)) 1 (Nat.lt_of_le_of_lt (Nat.div_le_self _ _) (fY.get _)) (by decide);rw[Nat.and_one_is_mod]at this;exact this)) (ak rfl rfl (jD rfl rfl rfl (aP rfl rfl rfl (ah rfl rfl (ab (aI ?_)))))))
  first
  |exact aO rfl rfl ⟨congrArg Value.bool (by unfold J4 bit;rw[decide_eq_true eC,dy,aG,Nat.testBit_eq_decide_div_mod_eq];exact decide_eq_decide.2 (by omega)),rfl⟩
  |exact aO rfl rfl ⟨congrArg Value.bool (by unfold J4;rw[decide_eq_false eC,gK]),rfl⟩
 ·refine ao rfl rfl rfl rfl (ao rfl rfl rfl rfl (ao rfl rfl rfl rfl (ao rfl rfl rfl rfl (ao rfl rfl rfl rfl (ao rfl rfl rfl rfl (ao rfl rfl rfl rfl (ao rfl rfl rfl rfl (ao rfl rfl rfl rfl (ao rfl rfl rfl rfl (ao rfl rfl rfl rfl (ao rfl rfl rfl rfl ?_)))))))))));refine ao rfl rfl rfl rfl (av rfl rfl rfl (ah rfl rfl (ab (aI ?_))))
  first
  |exact aO rfl rfl ⟨congrArg Value.bool (by unfold J4 bit;rw[decide_eq_true eC,dy,aG,Nat.testBit_eq_decide_div_mod_eq];exact decide_eq_decide.2 (by omega)),rfl⟩
  |exact aO rfl rfl ⟨congrArg Value.bool (by unfold J4;rw[decide_eq_false eC,gK]),rfl⟩
theorem HJ {M:aD} {w0:World} {n:Nat} {ws:List Nat} {bs bw:Nat} (h:gQ 133 190 n ws M w0 bs bw) {i:Int} (hb:∀j,bit ws j=true→j<n):
  Spec Tryz.prog 117 #[.pointer (some ⟨bs,0,none⟩),.int .i64 i,.bool true] w0 (fun v' w'=>∃ra,gQ 133 190 n ra M w' bs bw∧(∀j:Nat,bit ra j=(bit ws j&&decide ((j:Int)≠i)))∧Step M w0 M w' (fun b=>b=bw)):=by
 have hS:=h.s;have hW:=h.w;have hlen:=h.len;have fY:=h.ok;have OC:=h.nn;have Y5:∀b:Nat,b=bw→M b:=fun b hb=>by rw[hb];exact h.mw
 refine aR (args:=[_,_,_]) (fn:=Tryz.f117) Tryz.func117 rfl (n:=31) Tryz.ntmps117 (ai (ad (ah rfl rfl (ab (ai (ai (ad (ae rfl rfl (ae rfl rfl ?_)))))))));refine aJ rfl rfl Su (Dd h) (fun r wc h=>?_);obtain⟨rfl,rfl⟩:=h;refine km rfl rfl (br (v':= .bool (decide (¬(0≤i∧i<n)))) (by rw[decide_not]) (ae rfl rfl ?_));refine aL (g:=11) rfl (fun uJ=>?_) (fun uJ=>?_)
 ·refine ao rfl rfl rfl rfl (ao rfl rfl rfl rfl (ao rfl rfl rfl rfl (ao rfl rfl rfl rfl (ao rfl rfl rfl rfl (aP rfl rfl rfl (ab (kY rfl (ai (ad (ah rfl rfl (ab ?_)))))))))));refine aI ?_
  have HT:bit ws i.toNat=false∨i<0:=by
   by_cases h0:i<0
   ·exact .inr h0
   ·left
    cases OO:bit ws i.toNat with
    |false=>rfl
    |true=>
     have:=hb _ OO
     first
     |omega
     |(exfalso;apply c1;unfold J4;rw[OO,decide_eq_true (by omega)];rfl)
  refine aO rfl rfl ⟨ws,h,fun j=>?_,(al _ _).bN (fun _ h=>h.elim) Y5⟩;by_cases hj:(j:Int)=i
  ·rw[decide_eq_false (fun h=>h hj),Bool.and_false];rcases HT with h1|h1
   ·rw[show i.toNat=j from by omega]at h1;exact h1
   ·omega
  ·rw[decide_eq_true hj,ix]
 ·refine ak rfl rfl (ae rfl rfl (ak rfl rfl (ae rfl rfl (ak rfl rfl ?_))));refine aJ rfl rfl Y4 (HI h) (fun r wc h=>?_);obtain⟨rfl,rfl⟩:=h;refine ak rfl rfl (ae rfl rfl (ak rfl rfl (Rg.bne gY rfl rfl rfl (av rfl rfl rfl (ab ?_)))));refine bK rfl (fun c1=>?_) (fun c1=>?_)
  ·refine ai (ad (ah rfl rfl (ab (aI ?_))))
   have HT:bit ws i.toNat=false∨i<0:=by
    by_cases h0:i<0
    ·exact .inr h0
    ·left
     cases OO:bit ws i.toNat with
     |false=>rfl
     |true=>
      have:=hb _ OO
      first
      |omega
      |(exfalso;apply c1;unfold J4;rw[OO,decide_eq_true (by omega)];rfl)
   refine aO rfl rfl ⟨ws,h,fun j=>?_,(al _ _).bN (fun _ h=>h.elim) Y5⟩;by_cases hj:(j:Int)=i
   ·rw[decide_eq_false (fun h=>h hj),Bool.and_false];rcases HT with h1|h1
    ·rw[show i.toNat=j from by omega]at h1;exact h1
    ·omega
   ·rw[decide_eq_true hj,ix]
  ·refine aT (ai ?_);obtain⟨j,rfl⟩:∃j:Nat,i=j:=⟨i.toNat,by omega⟩;apply T.Cw (M:=M) mixed [] [b5.eq _,b5.eq _,b5.eq _,b5.eq (.slice (some ⟨bw,0,none⟩) ws.length ws.length),b5.eq _,b5.eq _,b5.eq (.pointer (some ⟨bw,((j:Int)/64).toNat,none⟩)),b5.eq (.int .u64 ((ws.getD (j/64) 0:Nat):Int)),b5.eq _,b5.eq _,b5.eq (.int .u64 ((2^(j%64):Nat):Int)),b5.eq (.int .u64 (((ws.getD (j/64) 0^^^2^(j%64)):Nat):Int)),b5.eq (.pointer (some ⟨bw,((j:Int)/64).toNat,none⟩))] 13
   ·rfl
   ·rfl
   ·rfl
   ·rfl
   ·rfl
   ·exact fun p hp=>by cases hp
   ·exact rA.none
   ·refine aH ?_ ?_
    ·intro wD E sD;refine ae rfl rfl ?_;exact ab ⟨rfl,rfl,_,rfl,rfl,al _ _⟩
    refine aH ?_ ?_
    ·intro wD E sD;refine ay (aC rfl ⟨_,rfl⟩ rfl ?_);exact ab ⟨rfl,rfl,_,rfl,rfl,al _ _⟩
    refine aH ?_ ?_
    ·intro wD E sD;refine ay (aB fV rfl rfl AD (by decide) rfl rfl ?_);exact ab ⟨rfl,rfl,_,rfl,rfl,al _ _⟩
    refine aH ?_ ?_
    ·intro wD E sD;refine ay (az db rfl rfl rfl (bQ sD (by assumption)) rfl ?_);exact ab ⟨rfl,rfl,_,rfl,rfl,al _ _⟩
    refine aH ?_ ?_
    ·intro wD E sD;refine ae rfl rfl ?_;exact ab ⟨rfl,rfl,_,rfl,rfl,al _ _⟩
    refine aH ?_ ?_
    ·intro wD E sD;refine ay (Rg.uC rfl rfl rfl (by omega) ?_);exact ab ⟨rfl,rfl,_,rfl,rfl,al _ _⟩
    refine aH ?_ ?_
    ·intro wD E sD;refine ay (ay (Rg.A3 db qM rfl rfl rfl (by omega) ?_));exact ab ⟨rfl,rfl,_,rfl,rfl,al _ _⟩
    refine aH ?_ ?_
    ·intro wD E sD;refine ay (az oz rfl rfl rfl (sD.aE hW) (v:= .int .u64 ((ws.getD (j/64) 0:Nat):Int)) (by rw[show(((j:Int)/64)).toNat=j/64 from by omega];exact hU (by omega)) ?_);exact ab ⟨rfl,rfl,_,rfl,rfl,al _ _⟩
    refine aH ?_ ?_
    ·intro wD E sD;refine ae rfl rfl ?_;exact ab ⟨rfl,rfl,_,rfl,rfl,al _ _⟩
    refine aH ?_ ?_
    ·intro wD E sD;refine ay (Rg.rY rfl rfl rfl (by omega) ?_);exact ab ⟨rfl,rfl,_,rfl,rfl,al _ _⟩
    refine aH ?_ ?_
    ·intro wD E sD;refine ay (Rg.shl rfl rfl rfl (by omega) (br (v':= .int .u64 ((2^(j%64):Nat):Int)) (congrArg _ (by rw[show((j:Int)%64)=((j%64:Nat):Int)from by omega];exact PG _ (by omega))) ?_));exact ab ⟨rfl,rfl,_,rfl,rfl,al _ _⟩
    refine aH ?_ ?_
    ·intro wD E sD;refine ay (ay (Rg.xor rfl rfl rfl (br (v':= .int .u64 (((ws.getD (j/64) 0^^^2^(j%64)):Nat):Int)) (congrArg _ (PF _ _ (fY.get _) (Nat.pow_lt_pow_right (by decide) (by omega)))) ?_)));exact ab ⟨rfl,rfl,_,rfl,rfl,al _ _⟩
    refine aH ?_ ?_
    ·intro wD E sD;refine ay (ay (ay (ay (ay (ay (ay (ay (ay (ay (ay (ay ?_)))))))))));refine ay (ay (Rg.A3 db qM rfl rfl rfl (by omega) ?_));exact ab ⟨rfl,rfl,_,rfl,rfl,al _ _⟩
    exact bE.nil
   ·intro Qk mE;refine ay (ay (ay (ay (ay (ay (ay (ay (ay (ay (ay (ay ?_)))))))))));refine ay ?_;refine bL (M:=M) (u:= .int .u64 ((ws.getD (j/64) 0:Nat):Int)) qM rfl rfl (mE.aE hW) (by rw[show((j:Int)/64).toNat=j/64 from by omega];exact hU (by omega)) rfl h.mw (fun w5 Sv s5=>?_);rw[show((j:Int)/64).toNat=j/64 from by omega,oM]at Sv;refine ab (ai (ad (ah rfl rfl (ab (aI ?_)))));have hX:(ws.getD (j/64) 0^^^2^(j%64))<2^64:=Nat.xor_lt_two_pow (fY.get _) (Nat.pow_lt_pow_right (by decide) (by omega));refine aO rfl rfl ⟨ws.set (j/64) (ws.getD (j/64) 0^^^2^(j%64)),(h.step mE (fun h=>h) (fun h=>h)).put s5 (by simp) Sv (fY.set hX),fun t=>?_,(mE.bN (fun _ h=>h.elim) Y5).trans s5 (fun _ _ h=>h)⟩
    have Y6:bit ws j=true:=by
     have:=fp.1 c1;unfold J4 at this;rw[aG,bD]at this;exact this.2
    rw[Ff fY (by omega)];by_cases ht:t=j
    ·subst ht;rw[Y6];simp
    ·rw[decide_eq_false ht,Bool.xor_false,decide_eq_true (by omega),ix]
theorem AE {M:aD} {w0:World} {n:Nat} {ws:List Nat} {bs bw:Nat} (h:gQ 133 190 n ws M w0 bs bw) {i:Int} (hb:∀j,bit ws j=true→j<n):
  Spec Tryz.prog 97 #[.pointer (some ⟨bs,0,none⟩),.int .i64 i] w0 (fun v' w'=>∃ra,gQ 133 190 n ra M w' bs bw∧(∀j:Nat,bit ra j=(bit ws j&&decide ((j:Int)≠i)))∧Step M w0 M w' (fun b=>b=bw)):=by
 refine aR (args:=[_,_]) (fn:=Tryz.f97) Tryz.func97 rfl (n:=8) Tryz.ntmps97 (ai (ad (ah rfl rfl (ab (ai (ad (ae rfl rfl (ae rfl rfl ?_))))))));refine aJ rfl rfl Y3 (HJ h hb) (fun r1 w1 h=>?_);obtain⟨ra,h1,h2,h3⟩:=h;refine ah rfl rfl (ab (aI ?_));exact aO rfl rfl ⟨ra,h1,h2,h3⟩
theorem xd {M:aD} {w0:World} {n:Nat} (hn:n≤1099511627776):
  Spec Tryz.prog 24 #[.int .i64 n] w0 (fun v' w'=>∃bs bw,v'= .pointer (some ⟨bs,0,none⟩)∧w0.heap.size≤bs∧w0.heap.size≤bw∧Step M w0 (ins (ins M bw) bs) w' aw∧gQ 133 190 n (List.replicate ((n+63)/64) 0) (ins (ins M bw) bs) w' bs bw):=by
 refine aR (args:=[_]) (fn:=Tryz.f24) Tryz.func24 rfl (n:=13) Tryz.ntmps24 (ai (ad (ah rfl rfl (ab (ai (ad (ae rfl rfl (Rg.max2 rfl rfl rfl (br (v':= .int .i64 n) (congrArg _ (by omega)) (ah rfl rfl (ab ?_)))))))))));refine ai (ad (ae rfl rfl (ae rfl rfl (bA rfl rfl rfl (by omega) (gj rfl rfl rfl (by omega) (Rg.uC rfl rfl rfl (by omega) (br (v':= .int .i64 (((n+63)/64:Nat):Int)) (congrArg _ (by omega)) ?_)))))));refine Rg.mk0 M db qM rfl rfl rfl rfl (by omega) (by omega) (fun bw w1 z1 Uc h1 s1=>?_);refine dO (places:=[(0,1),(1,1)]) fV Y1 Y2 rfl ⟨_,_,rfl,rfl,_,_,rfl,rfl,rfl⟩ (out:=[_,_]) ⟨0,[_],rfl,rfl,by simp[Value.cells],1,[_],rfl,rfl,by simp[Value.cells],rfl⟩ ?_;refine iJ (ins M bw) rfl rfl (fun bs w2 z2 z2' h2 s2=>?_);have y1:=s1.size;refine ah rfl rfl (ab (aI ?_));refine aO rfl rfl ⟨bs,bw,rfl,by omega,z1,s1.ax s2,.inl rfl,.inr (.inl rfl),by omega,by rw[List.length_replicate];exact h2,?_,by simp,fun x hx=>by rw[List.eq_of_mem_replicate hx];decide,hn⟩;have:=s2.aE h1;rw[this];simp[lV]
end Go.K
namespace Go.K
open Go.Proofs
namespace TKSet3
theorem AD:TI Tryz.prog 131 (.slice none 0 0) 1 24:=by unfold TI;kernel_rfl
theorem qM:TI Tryz.prog 190 (.int .u64 0) 1 8:=by unfold TI;kernel_rfl
end TKSet3
open TKSet3
set_option maxRecDepth 10000
end Go.K
namespace Go.K
open Go.Proofs
namespace TKSet2
theorem AD:TI Tryz.prog 131 (.slice none 0 0) 1 24:=by unfold TI;kernel_rfl
theorem qM:TI Tryz.prog 190 (.int .u64 0) 1 8:=by unfold TI;kernel_rfl
theorem E24:Enters Tryz.prog 24:=enters Tryz.func24 rfl (by decide)
theorem E67:Enters Tryz.prog 67:=enters Tryz.func67 rfl (by decide)
end TKSet2
open TKSet2
set_option maxRecDepth 10000
theorem xe {ws vs:List Nat} {n:Nat} (hl:ws.length=(n+63)/64) (hv:vs.length=(n+63)/64) (hr:0<n%64) (h1:∀j,j<64*ws.length→bit vs j= !bit ws j) (j:Nat):bit (vs.set (vs.length-1) (vs.getD (vs.length-1) 0%2^(n%64))) j=(decide (j<n)&& !bit ws j):=by
 rw[xA _ (by omega)];by_cases hj:j/64=vs.length-1
 ·rw[if_pos hj,Nat.testBit_mod_two_pow];have h2:=h1 j (by omega);have h3:(vs.getD (vs.length-1) 0).testBit (j%64)=bit vs j:=by unfold bit;rw[hj]
  rw[h3,h2];congr 1;exact decide_eq_decide.2 (by omega)
 ·rw[if_neg hj];by_cases qj:j<n
  ·rw[h1 j (by omega),decide_eq_true qj,dy]
  ·rw[decide_eq_false qj,gK,Ir (by omega)]
theorem AF {ws vs:List Nat} {n:Nat} (hl:ws.length=(n+63)/64) (hr:n%64=0) (h1:∀j,j<64*ws.length→bit vs j= !bit ws j) (h2:∀j,64*ws.length≤j→bit vs j=false) (j:Nat):bit vs j=(decide (j<n)&& !bit ws j):=by
 by_cases qj:j<n
 ·rw[h1 j (by omega),decide_eq_true qj,dy]
 ·rw[decide_eq_false qj,gK,h2 j (by omega)]
theorem Es {M:aD} {w0:World} {n:Nat} {ws:List Nat} {bs bw:Nat} (h:gQ 133 190 n ws M w0 bs bw):
  Spec Tryz.prog 67 #[.pointer (some ⟨bs,0,none⟩)] w0 (fun v' w'=>∃os ow ra,v'= .pointer (some ⟨os,0,none⟩)∧w0.heap.size≤os∧w0.heap.size≤ow∧Step M w0 (ins (ins M ow) os) w' aw∧gQ 133 190 n ra (ins (ins M ow) os) w' os ow∧∀j,bit ra j=(decide (j<n)&& !bit ws j)):=by
 have hS:=h.s;have hW:=h.w;have hlen:=h.len;have fY:=h.ok;have OC:=h.nn;refine aR (args:=[_]) (fn:=Tryz.f67) Tryz.func67 rfl (n:=56) Tryz.ntmps67 (ai (ad (ah rfl rfl (ab (ai (ad (ae rfl rfl (aC rfl ⟨_,rfl⟩ rfl (aB fV rfl rfl I3 (by decide) rfl rfl (az an rfl rfl rfl (by assumption) rfl ?_))))))))));refine aJ rfl rfl E24 (xd (M:=M) OC) (fun r1 w1 h=>?_);obtain⟨os,ow,rfl,z1,z2,s1,Y7⟩:=h;obtain⟨M1,vm⟩:∃M1,M1=ins (ins M ow) os:=⟨_,rfl⟩;rw[←vm]at s1 Y7;have h1:=h.step s1 (fun h=>h) (fun h=>h);have hS1:=h1.s;have lbs:=aj hS;have lbw:=aj hW;refine ah rfl rfl (ab (ai (ai (ad (ae rfl rfl (aC rfl ⟨_,rfl⟩ rfl (aB fV rfl rfl AD (by decide) rfl rfl (az db rfl rfl rfl (by assumption) rfl (Rg.nc db rfl rfl (ae rfl rfl (ab ?_)))))))))));refine a7 ?_;refine dd (σ:=Nat×List Nat) (fun s=>[(0,.pointer (some ⟨bs,0,none⟩)),(3,.pointer (some ⟨os,0,none⟩)),(15,.slice (some ⟨bw,0,none⟩) ws.length ws.length),(16,.int .i64 ws.length),(17,.int .i64 s.1)]) (fun s w=>s.1≤ws.length∧gQ 133 190 n ws M1 w bs bw∧gQ 133 190 n s.2 M1 w os ow∧(∀j,j<64*s.1→bit s.2 j= !bit ws j)∧(∀j,64*s.1≤j→bit s.2 j=false)∧Step M1 w1 M1 w (fun b=>b=ow)) (fun s=>ws.length-s.1) (0,List.replicate ((n+63)/64) 0) (.cons rfl (.cons rfl (.cons rfl (.cons rfl (.cons rfl .nil))))) ?_ ?_
 ·exact⟨bG _,h1,Y7,fun j hj=>by omega,fun j hj=>yX _ _,(al _ _).bN (fun _ h=>h.elim) (fun b hb=>by rw[hb];exact Y7.mw)⟩
 ·rintro⟨k,vs⟩ w2 ⟨hk,h2,yp,py,AU,S2⟩;dsimp only at hk yp py AU ⊢;have hS2:=h2.s;have hOS:=yp.s;have jA:=yp.len;refine ai (ad (bY rfl rfl rfl (ab (ai ?_))));refine bK rfl (fun c3=>?_) (fun c3=>?_)
  ·refine aT (ai (a7 (ai (ad (ae rfl rfl (Rg.A3 db qM rfl rfl rfl (by omega) (az oz rfl rfl rfl h2.w (v:= .int .u64 ((ws.getD (k) 0:Nat):Int)) (by rw[show((k:Int)).toNat=k from by omega];exact hU (by omega)) (ah rfl rfl (ah rfl rfl (ab (ad ?_)))))))))));refine ae rfl rfl (aC rfl ⟨_,rfl⟩ rfl (aB fV rfl rfl AD (by decide) rfl rfl (az db rfl rfl rfl (by assumption) rfl (ae rfl rfl (ae rfl rfl (Rg.PE rfl rfl (fY.get _) (Rg.A3 db qM rfl rfl rfl (by omega) ?_)))))));refine bL (M:=M1) (u:= .int .u64 ((vs.getD k 0:Nat):Int)) qM rfl rfl yp.w (by rw[aG];exact hU (by omega)) rfl yp.mw (fun w5 Sv s5=>?_);rw[aG,oM]at Sv;refine ab (ad (bA rfl rfl rfl (by omega) (ae rfl rfl (ab ?_))));refine⟨rfl,(k+1,vs.set k (2^64-1-ws.getD k 0)),(.cons rfl (.cons rfl (.cons rfl (.cons rfl (.cons rfl .nil))))),?_,?_⟩
   ·refine⟨by simp only;omega,h2.step s5 (by omega) (by omega),yp.put s5 (by simp) Sv (yp.ok.set (by omega)),fun j hj=>?_,fun j hj=>?_,S2.trans s5 (fun _ _ h=>h)⟩
    ·simp only at hj ⊢;rw[xA _ (by omega)];by_cases O6:j/64=k
     ·rw[if_pos O6,Fg (fY.get _) (by omega)];unfold bit;rw[O6]
     ·rw[if_neg O6];exact py j (by omega)
    ·simp only at hj ⊢;rw[xA _ (by omega),if_neg (by omega)];exact AU j (by omega)
   ·simp only;omega
  ·refine cB (ai (ai (ad (ae rfl rfl (aC rfl ⟨_,rfl⟩ rfl (aB fV rfl rfl I3 (by decide) rfl rfl (az an rfl rfl rfl (by assumption) rfl (Rg.rY rfl rfl rfl (by omega) (br (v':= .int .i64 ((n%64:Nat):Int)) (congrArg _ (by omega)) (ah rfl rfl (ab ?_)))))))))));refine ai (ad (ae rfl rfl (nT rfl rfl rfl (ab ?_))));refine bK rfl (fun c8=>?_) (fun c8=>?_)
   ·have OI:=Nat.two_pow_pos (n%64);have hp3:2^(n%64)<2^64:=Nat.pow_lt_pow_right (by decide) (by omega);apply T.Cw (M:=M1) mixed [] [b5.eq _,b5.eq _,b5.eq _,b5.eq (.slice (some ⟨ow,0,none⟩) vs.length vs.length),b5.eq _,b5.eq _,b5.eq _,b5.eq (.slice (some ⟨ow,0,none⟩) vs.length vs.length),b5.eq (.int .i64 vs.length),b5.eq (.int .i64 ((vs.length-1:Nat):Int)),b5.eq (.pointer (some ⟨ow,((vs.length-1:Nat):Int).toNat,none⟩)),b5.eq (.int .u64 ((vs.getD (vs.length-1) 0:Nat):Int)),b5.eq _,b5.eq (.int .u64 ((2^(n%64):Nat):Int)),b5.eq (.int .u64 ((2^(n%64)-1:Nat):Int)),b5.eq (.int .u64 (((vs.getD (vs.length-1) 0%2^(n%64)):Nat):Int)),b5.eq (.pointer (some ⟨ow,((vs.length-1:Nat):Int).toNat,none⟩))] 17
    ·rfl
    ·rfl
    ·rfl
    ·rfl
    ·rfl
    ·exact fun p hp=>by cases hp
    ·exact rA.none
    ·refine aH ?_ ?_
     ·intro wD E sD;refine ae rfl rfl ?_;exact ab ⟨rfl,rfl,_,rfl,rfl,al _ _⟩
     refine aH ?_ ?_
     ·intro wD E sD;refine ay (aC rfl ⟨_,rfl⟩ rfl ?_);exact ab ⟨rfl,rfl,_,rfl,rfl,al _ _⟩
     refine aH ?_ ?_
     ·intro wD E sD;refine ay (aB fV rfl rfl AD (by decide) rfl rfl ?_);exact ab ⟨rfl,rfl,_,rfl,rfl,al _ _⟩
     refine aH ?_ ?_
     ·intro wD E sD;refine ay (az db rfl rfl rfl (bQ sD (by assumption)) rfl ?_);exact ab ⟨rfl,rfl,_,rfl,rfl,al _ _⟩
     refine aH ?_ ?_
     ·intro wD E sD;refine ae rfl rfl ?_;exact ab ⟨rfl,rfl,_,rfl,rfl,al _ _⟩
     refine aH ?_ ?_
     ·intro wD E sD;refine ay (aC rfl ⟨_,rfl⟩ rfl ?_);exact ab ⟨rfl,rfl,_,rfl,rfl,al _ _⟩
     refine aH ?_ ?_
     ·intro wD E sD;refine ay (aB fV rfl rfl AD (by decide) rfl rfl ?_);exact ab ⟨rfl,rfl,_,rfl,rfl,al _ _⟩
     refine aH ?_ ?_
     ·intro wD E sD;refine ay (az db rfl rfl rfl (bQ sD (by assumption)) rfl ?_);exact ab ⟨rfl,rfl,_,rfl,rfl,al _ _⟩
     refine aH ?_ ?_
     ·intro wD E sD;refine ay (Rg.nc db rfl rfl ?_);exact ab ⟨rfl,rfl,_,rfl,rfl,al _ _⟩
     refine aH ?_ ?_
     ·intro wD E sD;refine ay (gj rfl rfl rfl (by omega) (br (v':= .int .i64 ((vs.length-1:Nat):Int)) (congrArg _ (by omega)) ?_));exact ab ⟨rfl,rfl,_,rfl,rfl,al _ _⟩
     refine aH ?_ ?_
     ·intro wD E sD;refine ay (ay (Rg.A3 db qM rfl rfl rfl (by omega) ?_));exact ab ⟨rfl,rfl,_,rfl,rfl,al _ _⟩
     refine aH ?_ ?_
     ·intro wD E sD;refine ay (az oz rfl rfl rfl (sD.aE yp.w) (v:= .int .u64 ((vs.getD (vs.length-1) 0:Nat):Int)) (by rw[aG];exact hU (by omega)) ?_);exact ab ⟨rfl,rfl,_,rfl,rfl,al _ _⟩
     refine aH ?_ ?_
     ·intro wD E sD;refine ae rfl rfl ?_;exact ab ⟨rfl,rfl,_,rfl,rfl,al _ _⟩
     refine aH ?_ ?_
     ·intro wD E sD;refine ay (Rg.shl rfl rfl rfl (by omega) (br (v':= .int .u64 ((2^(n%64):Nat):Int)) (congrArg _ (PG _ (by omega))) ?_));exact ab ⟨rfl,rfl,_,rfl,rfl,al _ _⟩
     refine aH ?_ ?_
     ·intro wD E sD;refine ay (Rg.Lb rfl rfl rfl (br (v':= .int .u64 ((2^(n%64)-1:Nat):Int)) (congrArg _ (by rw[show((2^(n%64):Nat):Int)-1=((2^(n%64)-1:Nat):Int)from by omega,CB,Nat.mod_eq_of_lt (by omega)])) ?_));exact ab ⟨rfl,rfl,_,rfl,rfl,al _ _⟩
     refine aH ?_ ?_
     ·intro wD E sD;refine ay (ay (Rg.and rfl rfl rfl (br (v':= .int .u64 (((vs.getD (vs.length-1) 0%2^(n%64)):Nat):Int)) (congrArg _ (by rw[Fe _ _ (yp.ok.get _) (by omega),Nat.and_two_pow_sub_one_eq_mod])) ?_)));exact ab ⟨rfl,rfl,_,rfl,rfl,al _ _⟩
     refine aH ?_ ?_
     ·intro wD E sD;refine ay (ay (ay (ay (ay (ay (ay (ay (ay (ay (ay (ay ?_)))))))))));refine ay (ay (ay (ay (ay (ay (Rg.A3 db qM rfl rfl rfl (by omega) ?_))))));exact ab ⟨rfl,rfl,_,rfl,rfl,al _ _⟩
     exact bE.nil
    ·intro O1 C7;refine ay (ay (ay (ay (ay (ay (ay (ay (ay (ay (ay (ay ?_)))))))))));refine ay (ay (ay (ay (ay ?_))));refine bL (M:=M1) (u:= .int .u64 ((vs.getD (vs.length-1) 0:Nat):Int)) qM rfl rfl (C7.aE yp.w) (by rw[aG];exact hU (by omega)) rfl yp.mw (fun w9 Y8 s9=>?_);rw[aG,oM]at Y8;refine ab (ai (ad (ae rfl rfl (ah rfl rfl (ab (aI ?_))))));have yP:k=ws.length:=by omega
     first
     |exact aO rfl rfl ⟨os,ow,vs.set (vs.length-1) (vs.getD (vs.length-1) 0%2^(n%64)),rfl,z1,z2,by rw[←vm];exact(s1.cO S2 (fun b hb=>by omega)).ax C7 |>.cO s9 (fun b hb=>by omega),by rw[←vm];exact(yp.step C7 (fun h=>h) (fun h=>h)).put s9 (by simp) Y8 (yp.ok.set (Nat.lt_of_le_of_lt (Nat.mod_le _ _) (yp.ok.get _))),fun j=>xe hlen jA (by omega) (by rw[←yP];exact py) j⟩
     |exact aO rfl rfl ⟨os,ow,vs,rfl,z1,z2,by rw[←vm];exact s1.cO S2 (fun b hb=>by omega),by rw[←vm];exact yp,fun j=>AF hlen (by omega) (by rw[←yP];exact py) (by rw[←yP];exact AU) j⟩
   ·refine aT (ai (ad (ae rfl rfl (ah rfl rfl (ab (aI ?_))))));have yP:k=ws.length:=by omega
    first
    |exact aO rfl rfl ⟨os,ow,vs.set (vs.length-1) (vs.getD (vs.length-1) 0%2^(n%64)),rfl,z1,z2,by rw[←vm];exact(s1.cO S2 (fun b hb=>by omega)).ax C7 |>.cO s9 (fun b hb=>by omega),by rw[←vm];exact(yp.step C7 (fun h=>h) (fun h=>h)).put s9 (by simp) Y8 (yp.ok.set (Nat.lt_of_le_of_lt (Nat.mod_le _ _) (yp.ok.get _))),fun j=>xe hlen jA (by omega) (by rw[←yP];exact py) j⟩
    |exact aO rfl rfl ⟨os,ow,vs,rfl,z1,z2,by rw[←vm];exact s1.cO S2 (fun b hb=>by omega),by rw[←vm];exact yp,fun j=>AF hlen (by omega) (by rw[←yP];exact py) (by rw[←yP];exact AU) j⟩
theorem Et {M:aD} {w0:World} {n:Nat} (hn:n≤1099511627776):
  Spec Tryz.prog 23 #[.int .i64 n] w0 (fun v' w'=>∃os ow ra M',v'= .pointer (some ⟨os,0,none⟩)∧w0.heap.size≤os∧w0.heap.size≤ow∧Step M w0 M' w' aw∧gQ 133 190 n ra M' w' os ow∧∀j,bit ra j=decide (j<n)):=by
 refine aR (args:=[_]) (fn:=Tryz.f23) Tryz.func23 rfl (n:=6) Tryz.ntmps23 (ai (ad (ah rfl rfl (ab (ai (ad (ae rfl rfl ?_)))))));refine aJ rfl rfl E24 (xd (M:=M) hn) (fun r1 w1 h=>?_);obtain⟨bs,bw,rfl,z1,z2,s1,h1⟩:=h;refine aJ rfl rfl E67 (Es h1) (fun r2 w2 h=>?_);obtain⟨os,ow,ra,rfl,z3,z4,s2,h2,hb⟩:=h;have y1:=s1.size;refine ah rfl rfl (ab (aI ?_));exact aO rfl rfl ⟨os,ow,ra,_,rfl,by omega,by omega,s1.ax s2,h2,fun j=>by rw[hb j,yX];simp⟩
end Go.K
namespace Go.K
section
variable {P:Program} {r:Option Nat} {n:Nat} {L:Sl} {ds:List Deferred} {w:World} {K:Kt}
theorem T.Sw {σ:Type} {c:Code} (Lf:σ→Sl) (df:σ→List Deferred) (I:σ→World→Prop) (m:σ→Nat) (s0:σ) (hL:Sub (Lf s0) L) (hd:df s0=ds) (h0:I s0 w)
  (round:∀s w,I s w→T P r n c (Lf s) (df s) w (rz (fun L' kK w'=>∃s',kK=df s'∧Sub (Lf s') L'∧I s' w'∧m s'<m s) K)):T P r n (.loop c) L ds w K:=by
 classical
 refine⟨fun a ha=>?_⟩;subst hd
 let J:σ→Act→World→Prop:=fun s a w=>fT n a (Lf s) (df s)∧I s w
 let μ:Act→World→Nat:=fun a w=>if h:∃s,J s a w then m (Classical.choose (least m (J · a w) h))else 0
 refine wpIn_loop (fun a w=>∃s,J s a w) μ ⟨s0,ha.sub hL,h0⟩ ?_;rintro a w hJ;have hc:=Classical.choose_spec (least m (J · a w) hJ);have hμ:μ a w=m (Classical.choose (least m (J · a w) hJ)):=by simp only[μ];rw[dif_pos hJ]
 rw[hμ];generalize Classical.choose (least m (J · a w) hJ)=s at hc;obtain⟨⟨hs,hi⟩,_⟩:=hc;refine wpIn_mono ((round s w hi).run a hs) ?_;rintro e a' w' ⟨L',kK,lK,hK⟩
 cases e with
 |normal=>
  obtain⟨s',rfl,EM,fK,dA⟩:=hK;have H4:∃s,J s a' w':=⟨s',lK.sub EM,fK⟩;refine⟨H4,?_⟩;have h2:=(Classical.choose_spec (least m (J · a' w') H4)).2 s' ⟨lK.sub EM,fK⟩;simp only[μ];rw[dif_pos H4];omega
 |exit id=>exact⟨L',kK,lK,hK⟩
 |goto id=>exact⟨L',kK,lK,hK⟩
 |ret=>exact⟨L',kK,lK,hK⟩
 |panic c=>exact⟨L',kK,lK,hK⟩
 |outgrown=>exact⟨L',kK,lK,hK⟩
structure fD (M:aD) (w:World) (base:Nat) (Ds:List Nat):Prop where
 nd:Ds.Nodup
 at_:∀D∈Ds,w.heap[D]? =some (.deferred (some []))∧M D∧base≤D
theorem fD.nil (M:aD) (w:World) (base:Nat):fD M w base []:=⟨List.Pairwise.nil,fun D h=>absurd h (List.not_mem_nil)⟩
theorem fD.cons {M:aD} {base D:Nat} {Ds:List Nat} (h:fD M w base Ds) (h1:D∉Ds) (h2:w.heap[D]? =some (.deferred (some []))) (h3:M D) (h4:base≤D):fD M w base (D::Ds):=
 ⟨rV.2 ⟨h1,h.nd⟩,fun E hE=>by
  rcases cW.1 hE with rfl|hE
  ·exact⟨h2,h3,h4⟩
  ·exact h.at_ E hE⟩
theorem fD.step {M M' N:aD} {w':World} {base:Nat} {Ds:List Nat} (h:fD M w base Ds) (s:Step M w M' w' N) (hN:∀b,N b→w.heap[b]? ≠some (.deferred (some []))):fD M' w' base Ds:=
 ⟨h.nd,fun D hD=>by
  obtain⟨h1,h2,h3⟩:=h.at_ D hD;exact⟨s.bB h1 (fun hn=>hN D hn h1),(s.mem _ (aj h1)).2 h2,h3⟩⟩
theorem fD.run {M:aD} {base:Nat}:∀{Ds:List Nat} {w:World},fD M w base Ds→∃w',Marks P (Ds.map mark) w w'∧Step M w M w' (fun b=>M b∧base≤b∧w.heap[b]? =some (.deferred (some [])))
 |[],w,_=>⟨w,rfl,(al _ _).bN (fun _ h=>h.elim) (fun _ h=>h.1)⟩
 |D::Ds,w,h=>by
  obtain⟨h1,h2,h3⟩:=h.at_ D (by simp);have kL:=rV.1 h.nd;have sE:Step M w M (w.putObj D (.deferred none)) (fun k=>k=D):=⟨fun h k hk=>by simpa[World.putObj]using h k hk,rfl,rfl,rfl,by simp[World.putObj],fun _ _=>Iff.rfl,fun k _ hn=>World.putObj_heap_other (fun e=>hn e),fun k hk=>by subst hk;exact h2⟩
  have h':fD M (w.putObj D (.deferred none)) base Ds:=⟨kL.2,fun E hE=>by
   obtain⟨q1,q2,q3⟩:=h.at_ E (by simp[hE]);exact⟨sE.bB q1 (fun(e:E=D)=>kL.1 (by rw[←e];exact hE)),q2,q3⟩⟩
  obtain⟨w',hm,s⟩:=fD.run h';refine⟨w',⟨D,_,rfl,run_takeDeferred h1,hm⟩,(sE.bN (fun b hb=>by subst hb;exact⟨h2,h3,h1⟩) (fun b hb=>hb.1)).trans s (fun b hb ⟨q1,q2,q3⟩=>?_)⟩;by_cases e:b=D
  ·subst e;exact⟨h2,h3,h1⟩
  ·exact⟨q1,q2,by rw[←sE.same b hb e];exact q3⟩
theorem Om {fn:Func} {Q:Value→World→Prop} {M:aD} {base t:Nat} {v:Value} {Ds:List Nat} (hr:fn.results= #[.tmp t]) (hv:lk L t=some v) (hD:fD M w base Ds) (h:∀w',Step M w M w' (fun b=>M b∧base≤b∧w.heap[b]? =some (.deferred (some [])))→Q v w'):
  yQ P fn Q .ret L (Ds.map mark) w:=by
 obtain⟨w',hm,s⟩:=hD.run (P:=P);exact⟨w',hm,fun a ha=>⟨v,by simp[results,hr,ha t v hv],h w' s⟩⟩
end
end Go.K
namespace Go.K
open Go.Proofs
set_option maxRecDepth 10000
structure HK (X K:aD→World→Prop) (M:aD) (w0:World) (Ds:List Nat) (D:Nat) (st:Loop) (M':aD) (w:World):Prop where
 lt:Lt M' w
 S:Step M w0 M' w aw
 r:w.heap[D+1]? =some (.loop st)
 mr:M' (D+1)
 d:w.heap[D]? =some (.deferred (some []))
 md:M' D
 x:X M' w
 k:K M' w
 ms:fD M' w w0.heap.size Ds
 z:w0.heap.size≤D
 dn:D∉Ds
section
variable {X X' K:aD→World→Prop} {M M1 M2 N:aD} {w0 w w':World} {Ds:List Nat} {D:Nat} {st:Loop} {C:TypeId}
def De (C:TypeId) (X:aD→World→Prop):Prop:=∀{M w M' w' N},X M w→Step M w M' w' N→(∀b,N b→∀cs t fr,w.heap[b]? =some (.cells cs t fr)→t=C)→X M' w'
theorem HK.Sx (hK:∀{M w M' w'},K M w→Le M w M' w'→K M' w') (h:HK X K M w0 Ds D st M1 w) (s:Step M1 w M2 w' N) (hb:∀b,N b→w0.heap.size≤b) (hc:∀b,N b→b<w.heap.size→∃cs t fr,w.heap[b]? =some (.cells cs t fr)) (x:X' M2 w'):HK X' K M w0 Ds D st M2 w':=by
 have n1: ¬N (D+1):=fun hn=>by obtain⟨cs,t,fr,hq⟩:=hc _ hn (aj h.r);rw[h.r]at hq;cases hq
 have n2: ¬N D:=fun hn=>by obtain⟨cs,t,fr,hq⟩:=hc _ hn (aj h.d);rw[h.d]at hq;cases hq
 exact⟨s.lt h.lt,h.S.cO s hb,s.bB h.r n1,(s.mem _ (aj h.r)).2 h.mr,s.bB h.d n2,(s.mem _ (aj h.d)).2 h.md,x,hK h.k s.le,h.ms.step s (fun b hn hq=>by obtain⟨cs,t,fr,hq'⟩:=hc b hn (aj hq);rw[hq]at hq';cases hq'),h.z,h.dn⟩
theorem HK.Sy (hK:∀{M w M' w'},K M w→Le M w M' w'→K M' w') (hX:De C X) (h:HK X K M w0 Ds D st M1 w) (s:Step M1 w M2 w' N) (hN:∀b,N b→w0.heap.size≤b∧(b<w.heap.size→∃cs,w.heap[b]? =some (.cells cs C (0,0)))):HK X K M w0 Ds D st M2 w':=
 h.Sx hK s (fun b hb=>(hN b hb).1) (fun b hb hl=>by obtain⟨cs,hc⟩:=(hN b hb).2 hl;exact⟨_,_,_,hc⟩) (hX h.x s (fun b hb cs t fr hc=>by
  obtain⟨J1,T0⟩:=(hN b hb).2 (aj hc);rw[hc]at T0;injection T0 with T0;injection T0))
theorem HK.tJ (hK:∀{M w M' w'},K M w→Le M w M' w'→K M' w') (hX:De C X) {st':Loop} (h:HK X K M w0 Ds D st M1 w):HK X K M w0 Ds D st' M1 (w.putObj (D+1) (.loop st')):=by
 have s:Step M1 w M1 (w.putObj (D+1) (.loop st')) (fun k=>k=D+1):=fA h.mr;have z:=h.z;refine⟨s.lt h.lt,h.S.cO s (fun k (hk:k=D+1)=>by omega),World.putObj_heap_same (aj h.r),h.mr,s.bB h.d (fun(hn:D=D+1)=>by omega),h.md,hX h.x s (fun b (hb:b=D+1) cs t fr hc=>?_),hK h.k s.le,h.ms.step s (fun b (hb:b=D+1) hc=>?_),h.z,h.dn⟩
 ·rw[hb,h.r]at hc;cases hc
 ·rw[hb,h.r]at hc;cases hc
end
theorem Y9 {X K:aD→World→Prop} {C:TypeId} {M M1:aD} {w0 w:World} {Ds:List Nat} {st:Loop} (hK:∀{M w M' w'},K M w→Le M w M' w'→K M' w') (hX:De C X) (hM:Lt M1 w) (S:Step M w0 M1 w aw) (hx:X M1 w) (hk:K M1 w) (hd:fD M1 w w0.heap.size Ds):
  ∃M',HK X K M w0 Ds w.heap.size st M' ((w.alloc (.deferred (some []))).alloc (.loop st)):=by
 have sA:Step M1 w (ins M1 w.heap.size) (w.alloc (.deferred (some []))) aw:=(cL M1 w _).own (aZ _) (by simp);have sB:Step (ins M1 w.heap.size) (w.alloc (.deferred (some []))) (ins (ins M1 w.heap.size) (w.heap.size+1)) ((w.alloc (.deferred (some []))).alloc (.loop st)) aw:=(cL _ _ _).own (by simp) (by simp);have hD:(w.alloc (.deferred (some []))).heap[w.heap.size]? =some (.deferred (some [])):=cu w _;have hR:((w.alloc (.deferred (some []))).alloc (.loop st)).heap[w.heap.size+1]? =some (.loop st):=by have:=cu (w.alloc (.deferred (some []))) (.loop st);rwa [World.size_alloc]at this
 exact⟨_,sB.lt (sA.lt hM),(S.ax sA).ax sB,hR,.inl rfl,sB.aE hD,.inr (.inl rfl),hX (hX hx sA (fun b h=>h.elim)) sB (fun b h=>h.elim),hK (hK hk sA.le) sB.le,(hd.step sA (fun b h=>h.elim)).step sB (fun b h=>h.elim),S.size,fun hn=>by have:=aj (hd.at_ _ hn).1;omega⟩
def kV (n b7 os ow:Nat) (P:Nat→Bool) (M:aD) (w:World):Prop:=w.heap[b7]? =some (.cells #[.pointer (some ⟨os,0,none⟩)] 47 (0,0))∧M b7∧∃ws,gQ 133 190 n ws M w os ow∧∀j,bit ws j=P j
theorem kV.kept {n b7 os ow:Nat} {P:Nat→Bool}:De 284 (kV n b7 os ow P):=fun⟨g,m,ws,hs,hp⟩ s hN=>by
 refine⟨s.bB g (fun hn=>absurd (hN _ hn _ _ _ g) (by decide)),(s.mem _ (aj g)).2 m,ws,hs.step s (fun hn=>absurd (hN _ hn _ _ _ hs.s) (by decide)) (fun hn=>absurd (hN _ hn _ _ _ hs.w) (by decide)),hp⟩
theorem kV.eq {n b7 os ow:Nat} {P Q:Nat→Bool} {M:aD} {w:World} (h:kV n b7 os ow P M w) (e:∀j,P j=Q j):kV n b7 os ow Q M w:=⟨h.1,h.2.1,h.2.2.choose,h.2.2.choose_spec.1,fun j=>(h.2.2.choose_spec.2 j).trans (e j)⟩
theorem kV.cut {n b7 os ow:Nat} {P:Nat→Bool} {M:aD} {w w':World} {ra:List Nat} {i:Int} (h:kV n b7 os ow P M w) (hs:gQ 133 190 n ra M w' os ow) (s:Step M w M w' (fun b=>b=ow)) (VH:∃ws,w.heap[ow]? =some (.cells (lV ws) 190 (0,0))) (hb:∀j:Nat,bit ra j=(P j&&decide ((j:Int)≠i))):kV n b7 os ow (fun j=>P j&&decide ((j:Int)≠i)) M w':=by
 obtain⟨g,m,_⟩:=h;obtain⟨ws,hw⟩:=VH;exact⟨s.bB g (fun(e:b7=ow)=>by rw[e,hw]at g;injection g with g;injection g with _ g;exact absurd g (by decide)),m,ra,hs,hb⟩
end Go.K
namespace Go.K
open Go.Proofs
namespace TKLiveB
theorem I47:TI Tryz.prog 47 (.pointer none) 1 8:=by unfold TI;kernel_rfl
theorem JJ:TI Tryz.prog 171 (.agg #[(.string ⟨#[]⟩),(.string ⟨#[]⟩),(.int .i64 0)]) 3 40:=by unfold TI;kernel_rfl
theorem E23:Enters Tryz.prog 23:=enters Tryz.func23 rfl (by decide)
theorem E34:Enters Tryz.prog 34:=enters Tryz.func34 rfl (by decide)
theorem YV:Enters Tryz.prog 58:=enters Tryz.func58 rfl (by decide)
theorem E97:Enters Tryz.prog 97:=enters Tryz.func97 rfl (by decide)
theorem E98:Enters Tryz.prog 98:=enters Tryz.func98 rfl (by decide)
theorem Za:Enters Tryz.prog 149:=enters Tryz.func149 rfl (by decide)
end TKLiveB
open TKLiveB
set_option maxRecDepth 10000
abbrev qN (s:Se) (ls:List (List Po)) (e:Er):List Int:=xc (o3 s.2.2.1 ls (du e.1)) s.2.1 e.2
def ui (n:Nat) (s:Se) (ls:List (List Po)) (upto:Int) (es:List Er) (j:Nat):Bool:=decide (j<n)&&decide (Av s.2.1 j<upto)&& !(es.any fun e=>decide (e.2<upto)&&decide ((j:Int)∈qN s ls e))
theorem xf {n:Nat} {s:Se} {ls:List (List Po)} {upto:Int} {es:List Er} {e:Er} (j:Nat):ui n s ls upto (es++[e]) j=(ui n s ls upto es j&& !(decide (e.2<upto)&&decide ((j:Int)∈qN s ls e))):=by
 unfold ui;rw[List.any_append];simp only[List.any_cons,List.any_nil,Bool.or_false,Bool.not_or,Bool.and_assoc]
theorem JK {n:Nat} {s:Se} {ls:List (List Po)} {upto:Int} {es:List Er} {j:Nat} (h:ui n s ls upto es j=true):j<n:=by
 unfold ui at h;simp only[bD,decide_eq_true_eq]at h;exact h.1.1
def rH (n:Nat) (s:Se) (upto:Int) (i j:Nat):Bool:=decide (j<n)&&(decide (i≤j)||decide (Av s.2.1 j<upto))
theorem JL {n:Nat} {s:Se} {upto:Int} {i:Nat} (h:upto≤Av s.2.1 (i:Int)) (j:Nat):(rH n s upto i j&&decide ((j:Int)≠(i:Int)))=rH n s upto (i+1) j:=by
 unfold rH;by_cases e:j=i
 ·subst e;rw[decide_eq_false (show¬(j:Int)≠(j:Int)from fun h=>h rfl),decide_eq_false (show¬j+1≤j by omega),decide_eq_false (show¬Av s.2.1 (j:Int)<upto by omega)];simp
 ·rw[decide_eq_true (show(j:Int)≠(i:Int) by omega),ix];congr 2;exact decide_eq_decide.2 (by omega)
theorem HL {n:Nat} {s:Se} {upto:Int} {i:Nat} (h: ¬upto≤Av s.2.1 (i:Int)) (j:Nat):rH n s upto i j=rH n s upto (i+1) j:=by
 unfold rH;by_cases e:j=i
 ·subst e;rw[decide_eq_true (show Av s.2.1 (j:Int)<upto by omega)];simp
 ·congr 2;exact decide_eq_decide.2 (by omega)
theorem JM {n:Nat} {s:Se} {ls:List (List Po)} {upto:Int} (j:Nat):rH n s upto n j=ui n s ls upto [] j:=by
 unfold rH ui;by_cases h:j<n
 ·rw[decide_eq_false (show¬n≤j by omega)];simp
 ·rw[decide_eq_false h];simp
abbrev On (bs:Nat) (v0:Value) (s:Se) (u:Value) (e:Er):aD→World→Prop:=fun M w=>w.heap[bs]? =some (.cells #[v0] 25 (0,0))∧¬M bs∧cf RT.se M w v0 s∧cf RT.er M w u e
abbrev AG (bs:Nat) (v0:Value) (s:Se) (u:Value) (e:Er) (es:List Er) (ve:Value):aD→World→Prop:=fun M w=>On bs v0 s u e M w∧(RT.er.sl).V M w es ve
theorem im {bs:Nat} {v0 u ve:Value} {s:Se} {e:Er} {es:List Er} {M M':aD} {w w':World} (h:AG bs v0 s u e es ve M w) (l:Le M w M' w'):AG bs v0 s u e es ve M' w':=⟨AB h.1 l,h.2.le l⟩
def vq (n:Nat) (s:Se) (ls:List (List Po)) (upto:Int) (es:List Er) (e:Er) (i j:Nat):Bool:=ui n s ls upto es j&& !decide ((j:Int)∈(qN s ls e).take i)
theorem JN {n:Nat} {s:Se} {ls:List (List Po)} {upto:Int} {es:List Er} {e:Er} {i:Nat} {x:Int} (h:(qN s ls e)[i]? =some x) (j:Nat):(vq n s ls upto es e i j&&decide ((j:Int)≠x))=vq n s ls upto es e (i+1) j:=by
 unfold vq;rw[cw,h,dp,Bool.and_assoc];congr 1;by_cases h1:(j:Int)∈(qN s ls e).take i<;>by_cases h2:(j:Int)=x<;>simp[h1,h2]
theorem JO {n:Nat} {s:Se} {ls:List (List Po)} {upto:Int} {es:List Er} {e:Er} (he:e.2<upto) (j:Nat):vq n s ls upto es e (qN s ls e).length j=ui n s ls upto (es++[e]) j:=by
 unfold vq;rw[xf,bT (aZ _),decide_eq_true he,dy]
theorem Oo {n:Nat} {s:Se} {ls:List (List Po)} {upto:Int} {es:List Er} {e:Er} {i j:Nat} (h:vq n s ls upto es e i j=true):j<n:=by
 unfold vq at h;rw[bD]at h;exact JK h.1
theorem Eu {M:aD} {s:Se} {ls:List (List Po)} {es:List Er} {upto:Int} {v0 ve:Value} (w0:World) (hM:Lt M w0) (hs:cf RT.se M w0 v0 s) (yk:ya s.2.2.1) (EG:s.2.2.2=ls.map hG) (JI:s.2.2.1.length=ls.length) (hn:s.1.length≤1000000) (he:(RT.er.sl).V M w0 es ve) (Cp:es.length≤1000000) (Db:∀e∈es,YX (o3 s.2.2.1 ls (du e.1))):
  Spec Tryz.prog 48 #[v0,ve,.int .i64 upto] w0 (fun v w=>∃os ow ws M',v= .pointer (some ⟨os,0,none⟩)∧w0.heap.size≤os∧w0.heap.size≤ow∧Step M w0 M' w aw∧gQ 133 190 s.1.length ws M' w os ow∧∀j,bit ws j=ui s.1.length s ls upto es j):=by
 have lu:=hM;refine sz (args:=[_,_,_]) (fn:=Tryz.f48) Tryz.func48 rfl (n:=48) Tryz.ntmps48 ?_;have S:Step M w0 M w0 aw:=(al _ _).bN (fun _ h=>h.elim) (fun _ h=>h.elim);refine ai (ad (ah rfl rfl (ab (ai (ad (ae rfl rfl ?_))))));refine aJ rfl rfl E34 (wY _ hs) (fun r wc hc=>?_);obtain⟨rfl,hw⟩:=hc;obtain rfl:w0=wc:=hw.symm;refine aJ rfl rfl E23 (Et (M:=M) (n:=s.1.length) (by omega)) (fun r2 w2 hc=>?_);obtain⟨os,ow,ws,M2,rfl,z1,z2,s2,nG,vr⟩:=hc;replace hs:=hs.le (by decide) s2.le;replace he:=he.le s2.le;replace hM:=s2.lt hM;have:=S.size;replace S:=S.ax s2;refine ew M2 I47 rfl (fun jq uI L8 L9 eC s1_3=>?_);obtain⟨jr,nz⟩:∃M',M'=ins M2 jq:=⟨_,rfl⟩;rw[←nz]at s1_3;have fv:jr jq:=by rw[nz];exact .inl rfl
 change uI.heap[jq]? =some (.cells #[.pointer none] _ _)at eC;replace hs:=hs.le (by decide) s1_3.le;replace he:=he.le s1_3.le;replace hM:=s1_3.lt hM;have:=S.size;replace S:=S.ax s1_3;refine bL (M:=jr) I47 rfl rfl eC rfl (rfl) fv (fun Fo uJ gI=>?_)
 try simp only[kI,List.set_cons_zero,List.set_cons_succ]at uJ
 have:=aj eC;replace fv:=(gI.mem _ this).2 fv;replace hs:=hs.le (by decide) gI.le;replace he:=he.le gI.le;replace hM:=gI.lt hM;have:=S.size;replace S:=S.trans gI (fun k hk h=>by have h:_=_:=h;subst h;first|(exfalso;omega)|(show _≤_;omega)|exact⟨by first|omega|assumption,(S.mem _ hk).1 ((gI.mem _ (aj eC)).1 fv)⟩|exact .inl rfl|exact .inr rfl|exact .inr (.inl rfl)|exact .inr (.inr rfl)|exact .inr (.inr (.inl rfl))|exact rfl);have nj:=uJ;clear eC;have eC:=nj;clear nj;refine ab (ai (ai (ad (ae rfl rfl ?_))));refine aJ rfl rfl E34 (wY _ hs) (fun r wc hc=>?_);obtain⟨rfl,rfl⟩:=hc;refine ae rfl rfl (ab (a7 ?_));refine dd (σ:=Nat) (fun i=>[(0,v0),(1,ve),(2,.int .i64 upto),(7,.pointer (some ⟨jq,0,none⟩)),(16,.int .i64 (s.1.length:Int)),(17,.int .i64 (i:Int))]) (fun i w=>∃M1,Lt M1 w∧Step M w0 M1 w aw∧kV s.1.length jq os ow (rH s.1.length s upto i) M1 w∧cf RT.se M1 w v0 s∧(RT.er.sl).V M1 w es ve∧i≤s.1.length) (fun i=>s.1.length-i) 0 (.cons rfl (.cons rfl (.cons rfl (.cons rfl (.cons rfl (.cons rfl .nil)))))) ?_ ?_
 ·exact⟨_,hM,S,⟨eC,fv,ws,(nG.step s1_3 (fun h=>h) (fun h=>h)).step gI (fun(h:os=jq)=>by have:=aj nG.s;omega) (fun(h:ow=jq)=>by have:=aj nG.w;omega),fun j=>by rw[vr j];unfold rH;simp⟩,hs,he,bG _⟩
 ·clear S hs he hM eC fv;rintro i w ⟨M1,hM,S,hx,hs,he,hi⟩;refine ai (ad (bY rfl rfl rfl (ab (ai ?_))));refine bK rfl (fun c3=>?_) (fun c3=>?_)
  ·refine aT (ai (a7 (ai (ad (ae rfl rfl (ah rfl rfl (ab (ai (ad (ae rfl rfl (ae rfl rfl ?_)))))))))));refine aJ rfl rfl YV (wZ _ hs) (fun r wc hc=>?_);obtain⟨rfl,rfl⟩:=hc;refine ae rfl rfl (dh rfl rfl rfl (ab ?_));refine bK rfl (fun c5=>?_) (fun c5=>?_)
   ·refine ad ?_;obtain⟨g7,m7,wsi,nG,vr⟩:=hx;refine az Tryz.underlying47 rfl rfl rfl g7 rfl (br (v':= .pointer (some ⟨os,0,none⟩)) rfl (ae rfl rfl ?_));refine aJ rfl rfl E97 (AE nG (i:=(i:Int)) (fun j hj=>by rw[vr j]at hj;unfold rH at hj;simp only[bD,decide_eq_true_eq]at hj;exact hj.1)) (fun r6 w6 hc=>?_);obtain⟨ra,HM,K8,s6⟩:=hc;have hx:=kV.cut (P:=rH s.1.length s upto i) ⟨g7,m7,wsi,nG,vr⟩ HM s6 ⟨_,nG.w⟩ (fun j=>by rw[K8 j,vr j]);replace hs:=hs.le (by decide) s6.le;replace he:=he.le s6.le;replace S:=S.cO s6 (fun b (hb:b=ow)=>by omega);replace hM:=s6.lt hM;refine ab (ad (bA rfl rfl rfl (by omega) (ae rfl rfl (ab ?_))));refine⟨rfl,i+1,(.cons rfl (.cons rfl (.cons rfl (.cons rfl (.cons rfl (.cons rfl .nil)))))),?_,?_⟩
    ·exact⟨M1,hM,S,hx.eq (JL c5),hs,he,by omega⟩
    ·omega
   ·refine aT (ad (bA rfl rfl rfl (by omega) (ae rfl rfl (ab ?_))));refine⟨rfl,i+1,(.cons rfl (.cons rfl (.cons rfl (.cons rfl (.cons rfl (.cons rfl .nil)))))),?_,?_⟩
    ·exact⟨M1,hM,S,hx.eq (HL c5),hs,he,by omega⟩
    ·omega
  ·refine cB (ai (ai (ad (ae rfl rfl (bM Tryz.underlying102 rfl he rfl (ae rfl rfl (ab (a7 ?_))))))));obtain rfl:i=s.1.length:=by omega
   replace hx:=hx.eq (JM (ls:=ls));refine T.Sw (σ:=Nat×List Nat) (fun q=>[(0,v0),(2,.int .i64 upto),(7,.pointer (some ⟨jq,0,none⟩)),(29,ve),(30,.int .i64 (es.length:Int)),(31,.int .i64 (q.1:Int))]) (fun q=>q.2.map mark) (fun q w=>∃M1,Lt M1 w∧Step M w0 M1 w aw∧kV s.1.length jq os ow (ui s.1.length s ls upto (es.take q.1)) M1 w∧cf RT.se M1 w v0 s∧(RT.er.sl).V M1 w es ve∧fD M1 w w0.heap.size q.2∧q.1≤es.length) (fun q=>es.length-q.1) (0,[]) (.cons rfl (.cons rfl (.cons rfl (.cons rfl (.cons rfl (.cons rfl .nil)))))) rfl ?_ ?_
   ·exact⟨_,hM,S,hx,hs,he,fD.nil _ _ _,bG _⟩
   ·clear S hs he hM hx;rintro⟨k,Ds⟩ w ⟨M1,hM,S,hx,hs,he,KX,hk⟩;dsimp only at hx KX hk ⊢;refine ai (ad (bY rfl rfl rfl (ab (ai ?_))));refine bK rfl (fun c9=>?_) (fun c9=>?_)
    ·refine aT (ai (a7 (ai (ad ?_))));obtain⟨e,AP⟩:∃e,es[k]? =some e:=⟨_,aK (by omega)⟩;refine dq (M:=M1) Tryz.underlying102 JJ rfl rfl rfl he (aq _ _) (by omega) (fun agn e' hg_ Sz=>?_);rw[aG]at hg_;obtain rfl:=bU (AP.symm.trans hg_);refine cM (M:=M1) (A:=RT.er) Tryz.underlying171 rfl JJ (by decide) rfl rfl rfl Sz (aq _ _) (fun ago hve=>?_);have Zb:=hve;obtain⟨rfl,⟨Zc,Zd⟩,agq⟩:=Oj Zb;refine rI (A:=RT.er) (M:=M1) JJ rfl rfl rfl rfl rfl (by assumption) (aq _ _) hM (fun R0 R1 qK pT R2=>?_);replace hs:=hs.le (by decide) pT.le;replace he:=he.le pT.le;replace hM:=pT.lt hM;have:=S.size;replace S:=S.ax pT;refine ab (ai (ai (ad ?_)));replace hx:=kV.kept hx pT (fun b h=>h.elim);replace KX:=KX.step pT (fun b h=>h.elim);refine aM (M:=M1) (A:=RT.er) (B:=RT.int .i64) Tryz.underlying171 rfl rfl I3 (by decide) er1 rfl rfl (by decide) qK (aq _ _) (fun agr SA=>?_);refine cn (M:=M1) an rfl rfl SA (aq _ _) (fun hez=>?_);refine br (v':= .int .i64 e.2) rfl (ae rfl rfl (dh rfl rfl rfl (ab ?_)));refine bK rfl (fun Mf=>?_) (fun Mf=>?_)
     ·refine cB (ad (bA rfl rfl rfl (by omega) (ae rfl rfl (ab ?_))));refine⟨(k+1,Ds),rfl,(.cons rfl (.cons rfl (.cons rfl (.cons rfl (.cons rfl (.cons rfl .nil)))))),?_,?_⟩
      ·exact⟨_,hM,S,hx.eq (fun j=>by dsimp only;rw[cw,AP,dp,xf,decide_eq_false (show¬e.2<upto by omega)];simp),hs,he,KX,by dsimp only;omega⟩
      ·dsimp only;omega
     ·refine aT (ai (ad (ae rfl rfl ?_)));refine cM (M:=M1) (A:=RT.er) Tryz.underlying171 rfl JJ (by decide) rfl rfl rfl qK (aq _ _) (fun ags SB=>?_);refine aJ rfl rfl E98 (Cg _ hM hs SB) (fun Ty EF hc=>?_);obtain⟨bs,u,rfl,I2,hu,XT,kq⟩:=hc;have hK0:AG bs v0 s u e es ve M1 EF:=⟨⟨I2,fun h=>by have:=hM _ h;omega,hs.le (by decide) kq.le,hu⟩,he.le kq.le⟩;replace hx:=kV.kept hx kq (fun b h=>h.elim);replace KX:=KX.step kq (fun b h=>h.elim);replace hs:=hs.le (by decide) kq.le;replace he:=he.le kq.le;replace qK:=qK.le (by decide) kq.le;replace hM:=kq.lt hM;have:=S.size;replace S:=S.ax kq;refine ab (a7 ?_);refine T.range (gf:=149) (lb:=[.pointer (some ⟨bs,0,none⟩),u].toArray) rfl Za (fun rec sy=>?_);obtain⟨D,hD⟩:∃D,D=EF.heap.size:=⟨_,rfl⟩;obtain⟨Mr,h0⟩:=Y9 (X:=kV s.1.length jq os ow (vq s.1.length s ls upto (es.take k) e 0)) (K:=AG bs v0 s u e es ve) (C:=284) (st:=rec .ready none) im kV.kept hM S (hx.eq (fun j=>by unfold vq;simp)) hK0 KX;rw[←hD]at sy h0 ⊢;refine Spec.mono (AA (ls:=ls) (u:=u) yk EG JI (Db e (aN AP)) Zc Zd (M:=Mr) (J:=fun i M' w=>HK (kV s.1.length jq os ow (vq s.1.length s ls upto (es.take k) e i)) (AG bs v0 s u e es ve) M w0 Ds D (rec .ready none) M' w) (Jx:=fun _=>False) _ (fun i M' w h=>⟨h.lt,h.k.1⟩) (fun i M' w M2 w2 N h s hN=>h.Sy im kV.kept s (fun b hb=>⟨by have h1:=(hN b hb).1;have h2:=h.z;simp at h1;omega,(hN b hb).2⟩)) (fun i M' wr x h hxi=>?_) h0) (fun _ w3 h3=>?_)
      ·refine qk (ps:=[42]) (vs:=[.int .i64 x]) sy h.r rfl (by decide) (ad (ah rfl rfl (ab ?_)));refine⟨rfl,h.r,?_⟩;have h4:=h.tJ im kV.kept (st':=rec .busy none);have s4:Step M' wr M' (wr.putObj (D+1) (.loop (rec .busy none))) (fun k=>k=D+1):=fA h.mr;generalize wr.putObj (D+1) _=w4 at h4 s4 ⊢;refine a7 (ad ?_);obtain⟨g7,m7,wsi,nG,vr⟩:=h4.x;refine az Tryz.underlying47 rfl rfl rfl g7 rfl (br (v':= .pointer (some ⟨os,0,none⟩)) rfl (ae rfl rfl ?_));refine aJ rfl rfl E97 (AE nG (i:=x) (fun j hj=>by rw[vr j]at hj;exact Oo hj)) (fun r5 w5 hc=>?_);obtain⟨ra,HM,K8,s5⟩:=hc;refine ab ?_;have x5:=kV.cut h4.x HM s5 ⟨_,nG.w⟩ (fun j=>by rw[K8 j,vr j]);have h5:=h4.Sx im s5 (fun b (hb:b=ow)=>by omega) (fun b (hb:b=ow) _=>by rw[hb];exact⟨_,_,_,nG.w⟩) (x5.eq (JN hxi));have h8:=h5.tJ im kV.kept (st':=rec .ready none);have s8:=fA (w:=w5) (o:= .loop (rec .ready none)) h5.mr;refine⟨h5.r,true,rfl,fun _=>⟨M',fun b=>b=D+1∨b=ow,h8,((s4.bN (fun b hb=> .inl hb) (fun b hb=>?_)).trans s5 (fun b _ hb=> .inr hb)).trans s8 (fun b _ hb=> .inl hb),fun b hb cs hc=>?_⟩,fun h=>by cases h⟩
       ·obtain⟨_,_,wz,hz,_⟩:=h.x;rcases hb with rfl|rfl
        ·exact h.mr
        ·exact hz.mw
       ·obtain⟨_,_,wz,hz,_⟩:=h.x;rcases hb with rfl|rfl
        ·rw[h.r]at hc;cases hc
        ·rw[hz.w]at hc;injection hc with hc;injection hc with _ hc;exact absurd hc (by decide)
      ·obtain⟨M',h⟩:=h3.resolve_right id;left;refine⟨h.r,?_⟩;have h5:=h.tJ im kV.kept (st':=rec .exhausted none);generalize w3.putObj (D+1) _=wE at h5 ⊢;refine ad (bA rfl rfl rfl (by omega) (ae rfl rfl (ab ?_)));refine⟨(k+1,D::Ds),rfl,(.cons rfl (.cons rfl (.cons rfl (.cons rfl (.cons rfl (.cons rfl .nil)))))),?_,?_⟩
       ·exact⟨_,h5.lt,h5.S,h5.x.eq (fun j=>by dsimp only;rw[cw,AP,dp];exact JO (by omega) j),h5.k.1.2.2.1,h5.k.2,h5.ms.cons h5.dn h5.d h5.md h5.z,by dsimp only;omega⟩
       ·dsimp only;omega
    ·refine cB (ai (ad ?_));obtain⟨g7,m7,wsf,nG,SC⟩:=hx;refine az Tryz.underlying47 rfl rfl rfl g7 rfl (br (v':= .pointer (some ⟨os,0,none⟩)) rfl (ah rfl rfl (ab (aI ?_))));exact Om rfl rfl KX (fun w' s'=>⟨os,ow,wsf,M1,rfl,by omega,by omega,S.cO s' (fun b hb=>hb.2.1),nG.step s' (fun hn=>by have:=hn.2.2;rw[nG.s]at this;cases this) (fun hn=>by have:=hn.2.2;rw[nG.w]at this;cases this),fun j=>by rw[SC j,bT (by omega)]⟩)
end Go.K
namespace Go.K
open Go.Proofs
namespace TKSnapQ
theorem I25:TI Tryz.prog 25 (.pointer none) 1 8:=by unfold TI;kernel_rfl
theorem CG:TI Tryz.prog 89 (.map none) 1 8:=by unfold TI;kernel_rfl
theorem HW:TI Tryz.prog 97 (.pointer none) 1 8:=by unfold TI;kernel_rfl
theorem EC:TI Tryz.prog 99 (.agg #[(.int .i64 0)]) 1 8:=by unfold TI;kernel_rfl
theorem Ev:TI Tryz.prog 105 (.slice none 0 0) 1 24:=by unfold TI;kernel_rfl
theorem Ze:TI Tryz.prog 107 (.agg #[(.int .i64 0),(.pointer none),(.slice none 0 0),(.int .i64 0)]) 4 48:=by unfold TI;kernel_rfl
theorem AH:TI Tryz.prog 111 (.agg #[(.int .i64 0),(.pointer none),(.pointer none)]) 3 24:=by unfold TI;kernel_rfl
theorem Vz:placesOf Tryz.prog 99=[(0,1)].map some:=by kernel_rfl
theorem Zf:placesOf Tryz.prog 107=[(0,1),(1,1),(2,1),(3,1)].map some:=by kernel_rfl
theorem Zg:placesOf Tryz.prog 111=[(0,1),(1,1),(2,1)].map some:=by kernel_rfl
theorem E45:Enters Tryz.prog 45:=enters Tryz.func45 rfl (by decide)
theorem E47:Enters Tryz.prog 47:=enters Tryz.func47 rfl (by decide)
theorem E48:Enters Tryz.prog 48:=enters Tryz.func48 rfl (by decide)
theorem VB:Enters Tryz.prog 49:=enters Tryz.func49 rfl (by decide)
end TKSnapQ
open TKSnapQ
set_option maxRecDepth 10000
abbrev RT.prt:RT (Int×Value×Value):=RT.pair (RT.int .i64) (RT.pair RT.cell RT.cell)
theorem jH:DT RT.prt:=fun M M' w w' x vs h=>h
theorem SD {M:aD} {w:World} {k:Int} {x y:Value} (hk: -9223372036854775808≤k∧k≤9223372036854775807) (hx:x.oneCell'=true) (hy:y.oneCell'=true):RT.prt.V M w (k,x,y) (.agg #[.int .i64 k,x,y]):=
 ⟨[.int .i64 k,x,y],⟨[.int .i64 k],[x,y],rfl,⟨rfl,hk⟩,[x],[y],rfl,⟨rfl,hx⟩,⟨rfl,hy⟩⟩,rfl⟩
theorem JP {M:aD} {w:World} {x:Int×Value×Value} {v:Value} (h:RT.prt.V M w x v):v= .agg #[.int .i64 x.1,x.2.1,x.2.2]∧(-9223372036854775808≤x.1∧x.1≤9223372036854775807)∧x.2.1.oneCell'=true∧x.2.2.oneCell'=true:=by
 obtain⟨vs,⟨va,vb,rfl,⟨rfl,hk⟩,vc,vd,rfl,⟨rfl,hx⟩,⟨rfl,hy⟩⟩,rfl⟩:=h;exact⟨rfl,hk,hx,hy⟩
def dQ (w:World) (sb p:Nat) (k upto c:Int) (B:Nat):Prop:=∃pv ps,w.heap[p]? =some (.cells #[.int .i64 c,.pointer (some ⟨sb,0,none⟩),pv,.int .i64 upto] 107 (0,0))∧Own RT.prt 111 allM w B pv ps∧ps.map (·.1)=[k]
theorem dQ.step {w w':World} {sb p B:Nat} {k upto c:Int} {N:aD} (h:dQ w sb p k upto c B) (s:Step allM w allM w' N) (hN:∀b,N b→b≠p∧∃cs t,t≠111∧w.heap[b]? =some (.cells cs t (0,0))):dQ w' sb p k upto c B:=by
 obtain⟨pv,ps,h1,h2,h3⟩:=h;exact⟨pv,ps,s.bB h1 (fun h=>(hN _ h).1 rfl),h2.lp jH s (fun b hb hn=>by obtain⟨_,cs,t,ht,hc⟩:=hN _ hn;exact h2.ef hc ht hb),h3⟩
theorem dQ.aW {w w':World} {sb p B:Nat} {k upto c:Int} (h:dQ w sb p k upto c B) (s:Step allM w allM w' aw):dQ w' sb p k upto c B:=h.step s fun _ h=>h.elim
theorem dQ.lt {w:World} {sb p B:Nat} {k upto c:Int} (h:dQ w sb p k upto c B):p<w.heap.size:=by
 obtain⟨pv,ps,h1,_⟩:=h;exact aj h1
open Go.Maps (int_keyed keyOf_int_mk)
theorem Ew {B sb mb:Nat} {u:Value} {n:Int} {ml:List (Int×Nat)} {fr:List Int} {k upto:Int} {hb:Nat} {c:Int} {xa:Addr} {vl:Value} {s:Se} {ls:List (List Po)} (w0:World) (hs:St w0 B sb mb u n ml fr) (hm:(k,hb)∈ml) (h0:dK w0 hb c (.pointer (some xa))) (hc:0≤c∧c≤900000) (hx:cf RT.se (fun b=>b=sb∨b=mb∨b=hb) w0 (.pointer (some xa)) s) (hl:((RT.int .i64).sl).V (fun b=>b=sb∨b=mb∨b=hb) w0 [k] vl) (yk:ya s.2.2.1) (EG:s.2.2.2=ls.map hG) (JI:s.2.2.1.length=ls.length) (hn:s.1.length≤1000000):
  Spec Tryz.prog 15 #[.pointer (some ⟨sb,0,none⟩),vl,.slice none 0 0,.int .i64 upto] w0 (fun v w=>∃p,v= .tuple #[.pointer (some ⟨p,0,none⟩),.int .i64 0]∧dQ w sb p k upto 1 w0.heap.size∧w0.heap.size≤p∧St w B sb mb u n ml fr∧dK w hb (c+1) (.pointer (some xa))∧Step allM w0 allM w (fun b=>b=hb)):=by
 have jz:=hs.b;have yz:=hs.z;have qx:=hs.d;have y8:=hs.k;have xJ:=hs.bs;have g0:=hs.s;have hr:=hs.r;obtain⟨qd,mU,oR⟩:=xJ;have gh:w0.heap[hb]? =some (.cells #[.int .i64 c,.pointer (some xa)] 101 (0,0)):=h0;have nh:sb≠hb:=fun e=>by subst e;rw[g0]at gh;cases gh
 have Fu:=oR _ hm;have Fv:=jz _ hm;simp only[]at Fu Fv;have AT:=aj gh;replace hl:=hl.le (Kp.start (B:=w0.heap.size) (aZ _));replace hx:=hx.le (by decide) (Kp.start (B:=w0.heap.size) (aZ _));refine aR (args:=[_,_,_,_]) (fn:=Tryz.f15) Tryz.func15 rfl (n:=79) Tryz.ntmps15 ?_;have S:Step allM w0 allM w0 (fun b=>b=hb):=(al _ _).bN (fun _ h=>h.elim) (fun _ _=>trivial);refine ai (ad ?_);refine iJ allM rfl rfl (fun sU Fm L6 L7 dD kR=>?_);replace kR:=kR.all
 try simp only[Value.cells]at dD
 have:=aj g0;replace g0:=kR.aE g0;have:=aj gh;replace gh:=kR.aE gh;replace hr:=hr.aW kR;replace hl:=hl.le (Kp.Bj kR);replace hx:=hx.le (by decide) (Kp.Bj kR);have:=S.size;replace S:=S.ax kR;refine ah rfl rfl (ah rfl rfl (ab (ai (ai (ad (ae rfl rfl (gG (xs:=[]) rfl rfl rfl ?_)))))));have hsA:St Fm B sb mb u n ml fr:=⟨g0,hr,qx,jz,yz,y8,qd,mU,oR⟩;refine aJ rfl rfl E45 (xK _ hsA dD (hl.le Le.none) (fun x hx=>by obtain rfl:=cC.1 hx;exact⟨_,_,_,hm,gh⟩)) (fun r1 w1 HX=>?_);obtain⟨rfl,rfl⟩:=HX;refine ab (fL rfl (aT (ai (ad (dO (places:=[(0,1)]) eO EC Vz rfl ⟨_,_,rfl,rfl,rfl⟩ (out:=[_]) ⟨0,[_],rfl,rfl,by simp[Value.cells],rfl⟩ (az qR rfl rfl rfl dD rfl (br (v':= .pointer (some ⟨sb,0,none⟩)) rfl (ae rfl rfl (dO (places:=[(0,1),(1,1),(2,1),(3,1)]) jN Ze Zf rfl ⟨_,_,rfl,rfl,_,_,rfl,rfl,_,_,rfl,rfl,rfl⟩ (out:=[_,_,.slice none 0 0,_]) ⟨0,[_],rfl,rfl,by simp[Value.cells],1,[_],rfl,rfl,by simp[Value.cells],3,[_],rfl,rfl,by simp[Value.cells],rfl⟩ ?_)))))))));refine iJ allM rfl rfl (fun HN Qn agB agC gv mF=>?_);replace mF:=mF.all;change Qn.heap[HN]? =some (.cells #[.int .i64 1,.pointer (some ⟨sb,0,none⟩),.slice none 0 0,.int .i64 upto] _ _)at gv;have:=aj g0;replace g0:=mF.aE g0;have:=aj gh;replace gh:=mF.aE gh;have:=aj dD;replace dD:=mF.aE dD;replace hr:=hr.aW mF;replace hl:=hl.le (Kp.Bj mF);replace hx:=hx.le (by decide) (Kp.Bj mF);have:=S.size;replace S:=S.ax mF;refine ah rfl rfl (ab (ai (ai (ad (ae rfl rfl (bM ar rfl hl rfl (ae rfl rfl (ab (a7 ?_)))))))));refine dd (σ:=Nat×Value) (fun q=>[(1,vl),(2,.slice none 0 0),(3,.int .i64 upto),(4,.pointer (some ⟨sU,0,none⟩)),(10,.pointer (some ⟨HN,0,none⟩)),(24,vl),(25,.int .i64 1),(26,.int .i64 (q.1:Int))]) (fun q w=>St w B sb mb u n ml fr∧dK w hb c (.pointer (some xa))∧w.heap[sU]? =some (.cells #[.pointer (some ⟨sb,0,none⟩)] 23 (0,0))∧w.heap[HN]? =some (.cells #[.int .i64 1,.pointer (some ⟨sb,0,none⟩),q.2,.int .i64 upto] 107 (0,0))∧(∃ps,ps.map (·.1)=List.replicate q.1 k∧Own RT.prt 111 allM w w0.heap.size q.2 ps)∧((RT.int .i64).sl).V (Kp (fun b=>b=sb∨b=mb∨b=hb) w0.heap.size w) w [k] vl∧cf RT.se (Kp (fun b=>b=sb∨b=mb∨b=hb) w0.heap.size w) w (.pointer (some xa)) s∧q.1≤1∧Step allM w0 allM w (fun b=>b=hb)) (fun q=>1-q.1) (0,.slice none 0 0) (.cons rfl (.cons rfl (.cons rfl (.cons rfl (.cons rfl (.cons rfl (.cons rfl (.cons rfl .nil)))))))) ?_ ?_
 ·exact⟨⟨g0,hr,qx,jz,yz,y8,qd,mU,oR⟩,gh,dD,gv,⟨[],rfl,eh _ _ _ _ _⟩,hl,hx,bG 1,S⟩
 ·clear g0 hr gh dD gv hl hx S hs h0;rintro⟨i,pv⟩ w ⟨hs,gh,dD,gv,⟨Zh,iK,ho⟩,hl,hx,hi,S⟩;dsimp only at hi gv ho iK ⊢;have g0:=hs.s;have hr:=hs.r;clear hs;change w.heap[hb]? =some (.cells #[.int .i64 c,.pointer (some xa)] 101 (0,0))at gh;refine ai (ad (bY rfl rfl rfl (ab (ai ?_))));refine bK rfl (fun c5=>?_) (fun c5=>?_)
  ·refine aT (ai (a7 (ai (ad (ae rfl rfl ?_)))));obtain rfl:i=0:=by omega
   refine dq (M:=(Kp (fun b=>b=sb∨b=mb∨b=hb) w0.heap.size w)) ar I3 rfl rfl rfl hl (aq _ _) (by simp) (fun u6 o AS FQ=>?_);obtain rfl:k=o:=by simpa using AS
   refine bZ (M:=(Kp (fun b=>b=sb∨b=mb∨b=hb) w0.heap.size w)) an rfl rfl rfl rfl rfl FQ (aq _ _) (fun v6 nw=>?_);obtain⟨rfl,_,_⟩:=yD.1 nw;refine ah rfl rfl (ah rfl rfl (ab (ai (ai (ad (ae rfl rfl (ae rfl rfl ?_)))))));refine Rg.Cq (M:=(Kp (fun b=>b=sb∨b=mb∨b=hb) w0.heap.size w)) ar I3 rfl rfl rfl hl (by simp) (fun u7 IB=>?_);replace IB:((RT.int .i64).sl).V aw w [] u7:=by simpa using IB.le Le.none
   refine ae rfl rfl ?_;refine aJ rfl rfl E47 (DS _ IB) (fun r7 w7 hc7=>?_);obtain⟨rfl,rfl⟩:=hc7;refine ab (fL rfl (aT (ai (ad (az qR rfl rfl rfl dD rfl (br (v':= .pointer (some ⟨sb,0,none⟩)) rfl (aC rfl ⟨_,rfl⟩ rfl (aB (o':=0) cr rfl rfl CG (by decide) rfl rfl (az cc rfl rfl rfl (by assumption) rfl (ae rfl rfl ?_))))))))));refine Rg.nf (R:=ng) cc (int_keyed an) HW rfl rfl rfl rfl (keyOf_int_mk an (uK (by omega))) hr.m (fun v ps hv=>?_);rw[atKey_mem qx hm]at hv;obtain rfl:=iV hv;refine aC rfl ⟨_,rfl⟩ rfl (aB (o':=1) oD rfl rfl I25 (by decide) rfl rfl (az qQ rfl rfl rfl (by assumption) rfl (ah rfl rfl (ab ?_))));apply T.mW 10 [0,1,2,3,4,5,6] 4 ((jw pv)) mixed rfl rfl rfl rfl;intro Zi Zj;have vu:=Zj allM;have:=aj g0;replace g0:=vu.aE g0;have:=aj gh;replace gh:=vu.aE gh;have:=aj dD;replace dD:=vu.aE dD;have:=aj gv;replace gv:=vu.aE gv;replace hr:=hr.aW vu;replace hl:=hl.le (Kp.Bj vu);replace hx:=hx.le (by decide) (Kp.Bj vu);replace ho:=ho.lp jH vu (fun _ _ h=>h);have:=S.size;replace S:=S.ax vu;refine ae rfl rfl ?_;refine ab ⟨rfl,rfl,rfl,?_⟩;refine ae rfl rfl ?_;refine ab ⟨rfl,rfl,rfl,?_⟩;refine aC rfl ⟨_,rfl⟩ rfl ?_;refine ab ⟨rfl,rfl,rfl,?_⟩;refine aB (o':=2) jN rfl rfl Ev (by decide) rfl rfl ?_;refine ab ⟨rfl,rfl,rfl,?_⟩;refine az Tryz.underlying105 rfl rfl rfl (by first|assumption|exact bQ vu (by assumption)) rfl ?_;refine ab ⟨rfl,rfl,rfl,?_⟩;refine ae rfl rfl ?_;refine ab ⟨rfl,rfl,rfl,?_⟩;refine ae rfl rfl ?_;refine ab ⟨rfl,rfl,rfl,?_⟩;refine ae rfl rfl ?_;refine ab ⟨rfl,rfl,rfl,?_⟩;refine ae rfl rfl ?_;refine ab ⟨rfl,rfl,rfl,?_⟩
   refine ae rfl rfl ?_;refine ab ⟨rfl,rfl,rfl,?_⟩;refine fo ?_;refine⟨gO ⟨eN,⟨eN,⟨oE rfl,⟨fQ jN rfl Ev (by decide),⟨ey rfl gv (fun h=>ho.ef gv (by decide) h),⟨eN,⟨eN,trivial⟩⟩⟩⟩⟩⟩⟩,?_⟩;have kp:=iw ((jw pv)) Zi;refine aJ rfl rfl E48 (Eu (ls:=ls) (es:=[]) _ (Kp.lt fun b h=>by rcases h with rfl|rfl|rfl<;>first|exact aj g0|exact hr.m.lt|exact aj gh) hx yk EG JI hn fZ (by simp) (fun e he=>by cases he)) (fun r10 TG Zk=>?_);obtain⟨os,ow,ws,M10,rfl,z1,z2,ny,nG,vr⟩:=Zk;clear nG vr;replace ny:=ny.all;have:=aj g0;replace g0:=ny.aE g0;have:=aj gh;replace gh:=ny.aE gh;have:=aj dD;replace dD:=ny.aE dD;have:=aj gv;replace gv:=ny.aE gv;replace hr:=hr.aW ny;replace hl:=hl.le (Kp.Bj ny);replace hx:=hx.le (by decide) (Kp.Bj ny);replace ho:=ho.lp jH ny (fun _ _ h=>h);have:=S.size;replace S:=S.ax ny;refine(fun(kp:ed _ _ _)=>ab ⟨rfl,rfl,fun _=>kp,?_⟩) (by first|exact kp|exact kp.o0 (by assumption)|exact kp.goN (by assumption)|exact kp.go (by assumption) (fun _ _ h=>by first|exact h|exact h.elim));refine dO (places:=[(0,1),(1,1),(2,1)]) Tryz.underlying111 AH Zg rfl ⟨_,_,rfl,rfl,_,_,rfl,rfl,_,_,rfl,rfl,rfl⟩ (out:=[_,_,_]) ⟨0,[_],rfl,rfl,by simp[Value.cells],1,[_],rfl,rfl,by simp[Value.cells],2,[_],rfl,rfl,by simp[Value.cells],rfl⟩ ?_;refine(fun(kp:ed _ _ _)=>ab ⟨rfl,rfl,fun _=>kp,?_⟩) (by first|exact kp|exact kp.o0 (by assumption)|exact kp.goN (by assumption)|exact kp.go (by assumption) (fun _ _ h=>by first|exact h|exact h.elim));have SE:Lt (jo pv) TG:=fun b hb=>(ho.base b hb).2
   refine fa (A:=RT.prt) (hn:=by decide) (M:=jo pv) (a:=(k,.pointer (some xa),.pointer (some ⟨os,0,none⟩))) Tryz.underlying105 AH (by decide) rfl rfl SE (SD (by omega) rfl rfl) (.inl rfl) (fun u12 EF Zl kq=>?_);replace kq:=kq.all;have:=aj g0;replace g0:=kq.aE g0;have:=aj gh;replace gh:=kq.aE gh;have:=aj dD;replace dD:=kq.aE dD;have:=aj gv;replace gv:=kq.aE gv;replace hr:=hr.aW kq;replace hl:=hl.le (Kp.Bj kq);replace hx:=hx.le (by decide) (Kp.Bj kq);replace ho:=ho.lp jH kq (fun _ _ h=>h);have:=S.size;replace S:=S.ax kq;refine(fun(kp:ed _ _ _)=>ab ⟨rfl,rfl,fun _=>kp,?_⟩) (by first|exact kp|exact kp.o0 (by assumption)|exact kp.goN (by assumption)|exact kp.go (by assumption) (fun _ _ h=>by first|exact h|exact h.elim));have aca:Zh.length=0:=by have:=congrArg List.length iK;simpa using this
   refine cQ (M:=jo pv) (base:=w0.heap.size) Tryz.underlying105 AH rfl rfl rfl rfl (ho.Kh jH) Zl (aq _ _) (by simp;omega) (by simp;omega) S.size (fun u13 Jm OX SF om=>?_);replace om:=om.all;have hq:∀b,jw pv b→w0.heap.size≤b:=fun b h=>(ho.base b h).1
   replace g0:=om.bB g0 (fun h=>ho.ef g0 (by decide) h);have wa:=om.bB gh (fun h=>ho.ef gh (by decide) h);have AI:=om.bB gv (fun h=>ho.ef gv (by decide) h);have KY:=om.bB dD (fun h=>ho.ef dD (by decide) h);replace hr:=hr.step om (fun b hb=>by obtain⟨cs,h⟩:=ho.CI hb;exact⟨cs,_,by decide,by decide,h⟩);replace hl:=hl.le (Kp.le om (fun b h=> .inr (hq b h)));replace hx:=hx.le (by decide) (Kp.le om (fun b h=> .inr (hq b h)));replace S:=S.trans om (fun b hb h=>by have:=hq b h;omega);clear gh gv dD ho;have gh:=wa;have gv:=AI;have dD:=KY;have ho:=SF.Mc jH (M':=allM) fun _ _=>trivial
   clear wa AI KY SF;refine(fun(kp:ed _ _ _)=>ab ⟨rfl,rfl,fun _=>kp,?_⟩) (by first|exact kp|exact kp.o0 (by assumption)|exact kp.goN (by assumption)|exact kp.go (by assumption) (fun _ _ h=>by first|exact h|exact h.elim));refine aC rfl ⟨_,rfl⟩ rfl ?_;refine ab ⟨rfl,rfl,fun h=>absurd rfl h,?_⟩;refine aB (o':=2) jN rfl rfl Ev (by decide) rfl rfl ?_;refine ab ⟨rfl,rfl,fun h=>absurd rfl h,?_⟩;refine bL (M:=allM) Ev rfl rfl gv rfl ((by obtain⟨_,_,he,_⟩:=ho.isSlice;rw[he];rfl)) trivial (fun Oq HO nH=>?_);change Oq.heap[_]? =some (Obj.cells #[.int .i64 1,.pointer (some ⟨sb,0,none⟩),u13,.int .i64 upto] _ _)at HO;replace g0:=nH.bB g0 (fun hk=>by have hk:_=_:=hk;omega);replace gh:=nH.bB gh (fun hk=>by have hk:_=_:=hk;omega);replace dD:=nH.bB dD (fun hk=>by have hk:_=_:=hk;omega);replace hr:=hr.step nH (fun b hb=>by cases hb;exact⟨_,_,by decide,by decide,gv⟩);replace hl:=hl.le (Kp.le nH (fun b h=>by subst h;first|exact .inr (by omega)|exact .inl (.inr (.inr rfl))));replace hx:=hx.le (by decide) (Kp.le nH (fun b h=>by subst h;first|exact .inr (by omega)|exact .inl (.inr (.inr rfl))));replace ho:=ho.lp jH nH (fun b hb h=>by subst h;first|exact ho.ef gv (by decide) hb|exact ho.ef gh (by decide) hb);have:=S.size;replace S:=S.trans nH (fun k hk h=>by have h:_=_:=h;subst h;first|(exfalso;omega)|(show _≤_;omega)|exact .inl rfl|exact .inr rfl|exact .inr (.inl rfl)|exact .inr (.inr rfl)|exact .inr (.inr (.inl rfl))|exact rfl);have AI:=HO;clear gv;have gv:=AI;clear AI;refine ab ⟨rfl,rfl,fun h=>absurd rfl h,?_⟩;refine oC (ad (bA rfl rfl rfl (by omega) (ae rfl rfl (ab ?_))));refine⟨rfl,(1,u13),(.cons rfl (.cons rfl (.cons rfl (.cons rfl (.cons rfl (.cons rfl (.cons rfl (.cons rfl .nil)))))))),?_,?_⟩
   ·exact⟨⟨g0,hr,qx,jz,yz,y8,qd,mU,oR⟩,gh,dD,gv,⟨_,by rw[ic,iK];rfl,ho⟩,hl,hx,aZ 1,S⟩
   ·dsimp only;omega
  ·refine cB (ai (ai (ad (ae rfl rfl (bM ar rfl hl rfl (ae rfl rfl (ab (a7 ?_))))))));refine dd (σ:=Nat) (fun j=>[(4,.pointer (some ⟨sU,0,none⟩)),(10,.pointer (some ⟨HN,0,none⟩)),(62,vl),(63,.int .i64 1),(64,.int .i64 (j:Int))]) (fun j w=>St w B sb mb u n ml fr∧dK w hb (c+j) (.pointer (some xa))∧w.heap[sU]? =some (.cells #[.pointer (some ⟨sb,0,none⟩)] 23 (0,0))∧w.heap[HN]? =some (.cells #[.int .i64 1,.pointer (some ⟨sb,0,none⟩),pv,.int .i64 upto] 107 (0,0))∧Own RT.prt 111 allM w w0.heap.size pv Zh∧((RT.int .i64).sl).V (Kp (fun b=>b=sb∨b=mb∨b=hb) w0.heap.size w) w [k] vl∧j≤1∧Step allM w0 allM w (fun b=>b=hb)) (fun j=>1-j) 0 (.cons rfl (.cons rfl (.cons rfl (.cons rfl (.cons rfl .nil))))) ?_ ?_
   ·exact⟨⟨g0,hr,qx,jz,yz,y8,qd,mU,oR⟩,(by rw[show c+((0:Nat):Int)=c from by omega];exact gh),dD,gv,ho,hl,by decide,S⟩
   ·clear g0 hr gh dD gv hl hx S ho;rintro j w ⟨hs,gh,dD,gv,ho,hl,hj,S⟩;have g0:=hs.s;have hr:=hs.r;clear hs;change w.heap[hb]? =some (.cells #[.int .i64 (c+j),.pointer (some xa)] 101 (0,0))at gh;refine ai (ad (bY rfl rfl rfl (ab (ai ?_))));refine bK rfl (fun F6=>?_) (fun F6=>?_)
    ·refine aT (ai (a7 (ai (ad ?_))));obtain rfl:j=0:=by omega
     refine dq (M:=(Kp (fun b=>b=sb∨b=mb∨b=hb) w0.heap.size w)) ar I3 rfl rfl rfl hl (aq _ _) (by simp) (fun u6 o AS FQ=>?_);obtain rfl:k=o:=by simpa using AS
     refine bZ (M:=(Kp (fun b=>b=sb∨b=mb∨b=hb) w0.heap.size w)) an rfl rfl rfl rfl rfl FQ (aq _ _) (fun v6 nw=>?_);obtain⟨rfl,_,_⟩:=yD.1 nw;refine ah rfl rfl (ab (ad (az qR rfl rfl rfl dD rfl (br (v':= .pointer (some ⟨sb,0,none⟩)) rfl (aC rfl ⟨_,rfl⟩ rfl (aB (o':=0) cr rfl rfl CG (by decide) rfl rfl (az cc rfl rfl rfl (by assumption) rfl (ae rfl rfl ?_))))))));refine Rg.nf (R:=ng) cc (int_keyed an) HW rfl rfl rfl rfl (keyOf_int_mk an (uK (by omega))) hr.m (fun v ps hv=>?_);rw[atKey_mem qx hm]at hv;obtain rfl:=iV hv;refine aC rfl ⟨_,rfl⟩ rfl (aB (o':=0) oD rfl rfl EC (by decide) rfl rfl ?_);refine aJ rfl rfl VB (we _ gh (by omega)) (fun Wv MP h15=>?_);obtain⟨g15,qC⟩:=h15;replace hr:=hr.count qC gh g15;replace g0:=qC.bB g0 (fun hk=>by have hk:_=_:=hk;omega);replace dD:=qC.bB dD (fun hk=>by have hk:_=_:=hk;omega);replace gv:=qC.bB gv (fun hk=>by have hk:_=_:=hk;omega);replace hl:=hl.le (Kp.le qC (fun b h=>by subst h;first|exact .inr (by omega)|exact .inl (.inr (.inr rfl))));replace ho:=ho.lp jH qC (fun b hb h=>by subst h;first|exact ho.ef gv (by decide) hb|exact ho.ef gh (by decide) hb);have:=S.size;replace S:=S.trans qC (fun k hk h=>by have h:_=_:=h;subst h;first|(exfalso;omega)|(show _≤_;omega)|exact .inl rfl|exact .inr rfl|exact .inr (.inl rfl)|exact .inr (.inr rfl)|exact .inr (.inr (.inl rfl))|exact rfl);have wa:=g15;clear gh;have gh:=wa;clear wa;refine ab (ad (bA rfl rfl rfl (by omega) (ae rfl rfl (ab ?_))));refine⟨rfl,1,(.cons rfl (.cons rfl (.cons rfl (.cons rfl (.cons rfl .nil))))),?_,?_⟩
     ·rw[show c+((0:Nat):Int)+1=c+((1:Nat):Int)from by omega]at gh;exact⟨⟨g0,hr,qx,jz,yz,y8,qd,mU,oR⟩,gh,dD,gv,ho,hl,aZ 1,S⟩
     ·omega
    ·refine cB (ai (ad (ae rfl rfl (ah rfl rfl (ah rfl rfl (ab (aI ?_)))))));obtain rfl:j=1:=by omega
     obtain rfl:i=1:=by omega
     exact dX rfl rfl rfl ⟨_,rfl,⟨pv,Zh,gv,ho,iK⟩,by omega,⟨g0,hr,qx,jz,yz,y8,qd,mU,oR⟩,gh,S⟩
end Go.K
namespace Go.K
open Go.Proofs
namespace TKSnapR
theorem I23:TI Tryz.prog 23 (.pointer none) 1 8:=by unfold TI;kernel_rfl
theorem EC:TI Tryz.prog 99 (.agg #[(.int .i64 0)]) 1 8:=by unfold TI;kernel_rfl
theorem Ev:TI Tryz.prog 105 (.slice none 0 0) 1 24:=by unfold TI;kernel_rfl
theorem AH:TI Tryz.prog 111 (.agg #[(.int .i64 0),(.pointer none),(.pointer none)]) 3 24:=by unfold TI;kernel_rfl
theorem O9:Enters Tryz.prog 17:=enters Tryz.func17 rfl (by decide)
theorem Tz:Enters Tryz.prog 50:=enters Tryz.func50 rfl (by decide)
theorem E52:Enters Tryz.prog 52:=enters Tryz.func52 rfl (by decide)
end TKSnapR
open TKSnapR
set_option maxRecDepth 10000
theorem AJ {p:Nat} {c:Int} {a b d:Value} (w0:World) (gp:w0.heap[p]? =some (.cells #[.int .i64 c,a,b,d] 107 (0,0))):
  Spec Tryz.prog 52 #[.pointer (some ⟨p,0,none⟩)] w0 (fun v w=>v= .bool (decide (c=0))∧w=w0):=by
 refine aR (args:=[_]) (fn:=Tryz.f52) Tryz.func52 rfl (n:=9) Tryz.ntmps52 ?_;have S:Step allM w0 allM w0 aw:=(al _ _).bN (fun _ h=>h.elim) (fun _ _=>trivial);refine ai (ad (ah rfl rfl (ab (ai (ad (ae rfl rfl (aC rfl ⟨_,rfl⟩ rfl (aB (o':=0) jN rfl rfl EC (by decide) rfl rfl (aB (o':=0) eO rfl rfl I3 (by decide) rfl rfl (az an rfl rfl rfl (by assumption) rfl (jD rfl rfl rfl ?_)))))))))));refine ah rfl rfl (ab (aI ?_));exact aO rfl rfl ⟨rfl,rfl⟩
theorem Ch {p:Nat} {c:Int} {a b d:Value} (w0:World) (gp:w0.heap[p]? =some (.cells #[.int .i64 c,a,b,d] 107 (0,0))) (hc: -1000000≤c∧c≤1000000):
  Spec Tryz.prog 50 #[.pointer (some ⟨p,0,none⟩)] w0 (fun v w=>v= .bool (decide (c-1=0))∧w.heap[p]? =some (.cells #[.int .i64 (c-1),a,b,d] 107 (0,0))∧Step allM w0 allM w (fun k=>k=p)):=by
 refine aR (args:=[_]) (fn:=Tryz.f50) Tryz.func50 rfl (n:=15) Tryz.ntmps50 ?_;have S:Step allM w0 allM w0 (fun k=>k=p):=(al _ _).bN (fun _ h=>h.elim) (fun _ _=>trivial);refine ai (ad (ah rfl rfl (ab (ai (ad (ae rfl rfl (aC rfl ⟨_,rfl⟩ rfl (aB (o':=0) eO rfl rfl I3 (by decide) rfl rfl (az an rfl rfl rfl (by assumption) rfl (gj rfl rfl rfl (by omega) (aC rfl ⟨_,rfl⟩ rfl ?_)))))))))));refine aB (o':=0) eO rfl rfl I3 (by decide) rfl rfl ?_;refine bL (M:=allM) I3 rfl rfl gp rfl (rfl) trivial (fun Ft uL DP=>?_);change Ft.heap[_]? =some (Obj.cells #[.int .i64 (c-1),a,b,d] _ _)at uL;have:=S.size;replace S:=S.trans DP (fun k hk h=>by have h:_=_:=h;subst h;first|(exfalso;omega)|(show _≤_;omega)|exact .inl rfl|exact .inr rfl|exact .inr (.inl rfl)|exact .inr (.inr rfl)|exact .inr (.inr (.inl rfl))|exact rfl);have gp_:=uL;clear gp;have gp:=gp_;clear gp_;refine ab (ai (ad (ae rfl rfl (aC rfl ⟨_,rfl⟩ rfl (aB (o':=0) eO rfl rfl I3 (by decide) rfl rfl (az an rfl rfl rfl (by assumption) rfl (jD rfl rfl rfl (ah rfl rfl (ab (aI ?_))))))))));exact aO rfl rfl ⟨rfl,gp,S⟩
theorem AK {x m:Int} (w0:World) (hx: -9223372036854775808≤x∧x≤9223372036854775807) (hm:1≤m∧m≤1000000):
  Spec Tryz.prog 14 #[.int .i64 x,.int .i64 m] w0 (fun v w=>∃r:Int,v= .int .i64 r∧0≤r∧r<m∧w=w0):=by
 refine aR (args:=[_,_]) (fn:=Tryz.f14) Tryz.func14 rfl (n:=13) Tryz.ntmps14 (ai (ad (ah rfl rfl (ab (ai (ai (ad (ae rfl rfl (bY rfl rfl rfl (ab ?_))))))))));refine bK rfl (fun c1=>?_) (fun c1=>?_)
 ·refine ad (ae rfl rfl (bA rfl rfl rfl (by omega) (Rg.neg rfl rfl (by omega) (ah rfl rfl (ab (ai (ad (ae rfl rfl (ae rfl rfl (Rg.rY rfl rfl rfl (by omega) (ah rfl rfl ?_)))))))))));refine ab (aI ?_)
  first
  |exact aO rfl rfl ⟨_,rfl,Int.emod_nonneg _ (by omega),Int.emod_lt_of_pos _ (by omega),rfl⟩
 ·refine aT (ai (ad (ae rfl rfl (ae rfl rfl (Rg.rY rfl rfl rfl (by omega) (ah rfl rfl (ab (aI ?_))))))))
  first
  |exact aO rfl rfl ⟨_,rfl,Int.emod_nonneg _ (by omega),Int.emod_lt_of_pos _ (by omega),rfl⟩
open Go.Maps (int_keyed keyOf_int_mk)
def Left (w:World) (B sb mb:Nat) (n:Int) (ml:List (Int×Nat)) (fr:List Int) (u:Value) (k:Int) (hb:Nat) (c:Int) (x:Value):Prop:=
 (c≠1→St w B sb mb u n ml fr∧dK w hb (c-1) x)∧(c=1→∃u',St w B sb mb u' n (ml.filter fun p=> !decide (p.1=k)) (fr++[k]))
theorem uj {B sb mb:Nat} {u:Value} {n:Int} {ml:List (Int×Nat)} {fr:List Int} {k:Int} {hb:Nat} {c:Int} {x:Value} (w0:World) (hs:St w0 B sb mb u n ml fr) (hm:(k,hb)∈ml) (h0:dK w0 hb c x) (hc: -1000000≤c∧c≤1000000):
  Spec Tryz.prog 17 #[.pointer (some ⟨sb,0,none⟩),.int .i64 k] w0 (fun v w=>v= .tuple #[.bool (decide (c=1)),.int .i64 0]∧Left w B sb mb n ml fr u k hb c x∧(c≠1→Step allM w0 allM w (fun b=>b=hb))∧Step allM w0 allM w (fun k=>k=sb∨k=mb∨k=hb∨u.ownBlock=some k)):=by
 by_cases h1:c=1
 ·refine(wh w0 hs hm h0 hc h1).mono fun v w ⟨a,b,s⟩=>⟨?_,⟨fun h=>absurd h1 h,fun _=>b⟩,fun h=>absurd h1 h,s⟩
  rw[a,decide_eq_true h1]
 ·refine(wg w0 hs hm h0 hc h1).mono fun v w ⟨a,b,c',s⟩=>⟨?_,⟨fun _=>⟨b,c'⟩,fun h=>absurd h h1⟩,fun _=>s,s.bN (fun b h=> .inr (.inr (.inl h))) fun _ _=>trivial⟩
  rw[a,decide_eq_false h1]
theorem vv {B sb mb:Nat} {u:Value} {n:Int} {ml:List (Int×Nat)} {fr:List Int} {k upto:Int} {hb p Bq:Nat} {c:Int} {x:Value} (w0:World) (hs:St w0 B sb mb u n ml fr) (hm:(k,hb)∈ml) (h0:dK w0 hb c x) (hc:0≤c∧c≤900000) (hp:dQ w0 sb p k upto 1 Bq):
  Spec Tryz.prog 19 #[.pointer (some ⟨p,0,none⟩)] w0 (fun v w=>v= .tuple #[.bool true,.int .i64 0]∧Left w B sb mb n ml fr u k hb c x∧(c≠1→Step allM w0 allM w (fun b=>b=hb∨b=p))∧Step allM w0 allM w (fun b=>b=sb∨b=mb∨b=hb∨u.ownBlock=some b∨b=p)):=by
 obtain⟨pv,ps,gp,ho,iK⟩:=hp;have Im:=aj gp;have N8:p≠hb:=fun e=>by subst e;rw[h0]at gp;cases gp
 have S0:Step allM w0 allM w0 (fun b=>b=p):=(al _ _).bN (fun _ h=>h.elim) (fun _ _=>trivial);refine aR (args:=[_]) (fn:=Tryz.f19) Tryz.func19 rfl (n:=32) Tryz.ntmps19 ?_;have S:Step allM w0 allM w0 (fun b=>b=sb∨b=mb∨b=hb∨u.ownBlock=some b∨b=p):=(al _ _).bN (fun _ h=>h.elim) (fun _ _=>trivial);refine ai (ad (ah rfl rfl (ah rfl rfl (ab (ai (a7 (ai (ad (ae rfl rfl ?_)))))))));refine aJ rfl rfl E52 (AJ _ gp) (fun r1 w1 HX=>?_);obtain⟨rfl,e1⟩:=HX;obtain rfl:w0=w1:=e1.symm;refine br (v':= .bool false) rfl (ah rfl rfl (ab (fL rfl (ai (ad (ae rfl rfl (aC rfl ⟨_,rfl⟩ rfl (aB (o':=0) jN rfl rfl EC (by decide) rfl rfl ?_))))))));refine aJ rfl rfl Tz (Ch _ gp (by omega)) (fun r3 w3 Md=>?_);obtain⟨rfl,gp3,s3⟩:=Md;have oR:St w3 B sb mb u n ml fr:=⟨s3.bB hs.s (fun e=>by subst e;have:=hs.s.symm.trans gp;cases this),hs.r.step s3 (fun b e=>by cases e;exact⟨_,_,by decide,by decide,gp⟩),hs.d,hs.b,hs.z,hs.k,hs.bs⟩;replace S:Step allM w0 allM w3 (fun b=>b=sb∨b=mb∨b=hb∨u.ownBlock=some b∨b=p):=s3.bN (fun b h=> .inr (.inr (.inr (.inr h)))) fun _ _=>trivial
 have h03:dK w3 hb c x:=s3.bB h0 (fun e=>N8 e.symm);have EJ:=ho.lp jH s3 (fun b hb e=>by subst e;exact ho.ef gp (by decide) hb);have gp:w3.heap[p]? =some (.cells #[.int .i64 0,.pointer (some ⟨sb,0,none⟩),pv,.int .i64 upto] 107 (0,0)):=gp3;refine br (v':= .bool true) rfl (km rfl rfl (br (v':= .bool false) rfl (ah rfl rfl (ab (fL rfl (aT (ai (ai (ad (ae rfl rfl (aC rfl ⟨_,rfl⟩ rfl ?_)))))))))));refine aB (o':=2) jN rfl rfl Ev (by decide) rfl rfl (az Tryz.underlying105 rfl rfl rfl (by assumption) rfl ?_);have hpv:(RT.prt.sl).V aw w3 ps pv:=EJ.sl Le.none (fun _ _ h=>h) (by have:=congrArg List.length iK;simp at this;omega);have sr:ps.length=1:=by have:=congrArg List.length iK;simpa using this
 refine bM Tryz.underlying105 rfl hpv rfl (br (v':= .int .i64 1) (by rw[sr];rfl) (ae rfl rfl (ab (a7 ?_))));refine dd (σ:=Nat) (fun i=>[(0,.pointer (some ⟨p,0,none⟩)),(18,pv),(19,.int .i64 (1:Int)),(20,.int .i64 (i:Int))]) (fun i w=>(i=0∧w=w3)∨(i=1∧Left w B sb mb n ml fr u k hb c x∧(c≠1→Step allM w3 allM w (fun b=>b=hb))∧Step allM w3 allM w (fun k=>k=sb∨k=mb∨k=hb∨u.ownBlock=some k))) (fun i=>1-i) 0 (.cons rfl (.cons rfl (.cons rfl (.cons rfl .nil)))) ?_ ?_
 ·exact .inl ⟨rfl,rfl⟩
 ·rintro i w hI;refine ai (ad (bY rfl rfl rfl (ab (ai ?_))));refine bK rfl (fun c6=>?_) (fun c6=>?_)
  ·refine aT (ai (a7 (ai (ad ?_))))
   obtain⟨rfl,rfl⟩:i=0∧w=w3:=by
    rcases hI with h|h
    ·exact h
    ·omega
   obtain⟨e,he⟩:∃e,ps[0]? =some e:=⟨_,aK (by omega)⟩;refine dq (M:=aw) Tryz.underlying105 AH rfl rfl rfl hpv (aq _ _) (by omega) (fun u7 o Re IB=>?_);obtain rfl:e=o:=bU (he.symm.trans Re)
   have hek:e.1=k:=by
    have:=congrArg (·[0]?) iK;rw[dZ,he]at this;simpa using this
   refine cM (M:=aw) (A:=RT.prt) Tryz.underlying111 rfl AH (by decide) rfl rfl rfl IB (aq _ _) (fun v7 zJ=>?_);obtain⟨rfl,Ez,EA,ZL⟩:=JP zJ;refine ew allM AH rfl (fun Zm Rf agK agL uM qG=>?_);replace qG:=qG.all;change Rf.heap[Zm]? =some (.cells #[.int .i64 0,.pointer none,.pointer none] _ _)at uM;have:=aj gp;replace gp:=qG.aE gp;have:=S.size;replace S:=S.ax qG;refine eP (M:=allM) (vs:=[.int .i64 e.1,e.2.1,e.2.2]) AH rfl rfl (by intro u hu;simp at hu;rcases hu with rfl|rfl|rfl<;>first|rfl|assumption) rfl rfl uM trivial (fun w73 g73 Zn=>?_);replace gp:=Zn.bB gp (fun hk=>by have hk:_=_:=hk;omega);have:=S.size;replace S:=S.trans Zn (fun k hk h=>by have h:_=_:=h;subst h;first|(exfalso;omega)|(show _≤_;omega)|exact .inl rfl|exact .inr rfl|exact .inr (.inl rfl)|exact .inr (.inr rfl)|exact .inr (.inr (.inl rfl))|exact rfl);have KZ:=g73;clear uM;have uM:=KZ;clear KZ;refine ab ?_;apply T.Pu 6 mixed rfl rfl rfl rfl rfl;intro wD8 sA8;have T1:=sA8 allM;have:=aj gp;replace gp:=T1.aE gp;have:=aj uM;replace uM:=T1.aE uM;have:=S.size;replace S:=S.ax T1;refine ae rfl rfl ?_;refine ab ⟨rfl,rfl,rfl,?_⟩;refine aC rfl ⟨_,rfl⟩ rfl ?_;refine ab ⟨rfl,rfl,rfl,?_⟩;refine aB (o':=1) jN rfl rfl I23 (by decide) rfl rfl ?_;refine ab ⟨rfl,rfl,rfl,?_⟩;refine az qR rfl rfl rfl gp rfl (br (v':= .pointer (some ⟨sb,0,none⟩)) rfl ?_);refine ab ⟨rfl,rfl,rfl,?_⟩;refine aB (o':=0) Tryz.underlying111 rfl rfl I3 (by decide) rfl rfl ?_;refine ab ⟨rfl,rfl,rfl,?_⟩;refine az an rfl rfl rfl uM rfl (br (v':= .int .i64 k) (congrArg (Value.int .i64) hek) ?_);refine ab ⟨rfl,rfl,rfl,?_⟩;refine fo ?_;have sw:=(qG.trans Zn (N:=aw) (fun b hb e=>by cases e;omega)).ax T1;refine aJ rfl rfl O9 (uj _ (oR.aW sw) hm (sw.aE h03) (by omega)) (fun r8 w8 hc8=>?_)
   obtain⟨rfl,kg,s8a,s8b⟩:=hc8;refine ab (ad (bA rfl rfl rfl (by omega) (ae rfl rfl (ab ?_))));refine⟨rfl,1,(.cons rfl (.cons rfl (.cons rfl (.cons rfl .nil)))),?_,?_⟩
   ·exact .inr ⟨rfl,kg,fun h=>(sw.bN (fun _ h=>h.elim) fun _ _=>trivial).trans (s8a h) fun _ _ h=>h,(sw.bN (fun _ h=>h.elim) fun _ _=>trivial).trans s8b fun _ _ h=>h⟩
   ·omega
  ·refine cB (ai (ad (ah rfl rfl (ah rfl rfl (ab (aI ?_))))));obtain⟨rfl,kg,sa,sb_⟩:=hI.resolve_left (by omega);exact dX rfl rfl rfl ⟨rfl,kg,fun h=>(s3.bN (fun b h=> .inr h) fun _ _=>trivial).trans (sa h) fun _ _ h=> .inl h,(s3.bN (N':=fun b=>b=sb∨b=mb∨b=hb∨u.ownBlock=some b∨b=p) (fun b h=> .inr (.inr (.inr (.inr h)))) fun _ _=>trivial).trans sb_ fun b _ h=>by rcases h with h|h|h|h<;>simp[h]⟩
end Go.K
namespace Go.K
open Go.Proofs
namespace TKSnapS
theorem B0:placesOf Tryz.prog 0=[].map some:=by kernel_rfl
theorem Zo:Enters Tryz.prog 10:=enters Tryz.func10 rfl (by decide)
theorem Zp:Enters Tryz.prog 11:=enters Tryz.func11 rfl (by decide)
theorem Zq:Enters Tryz.prog 13:=enters Tryz.func13 rfl (by decide)
theorem O9:Enters Tryz.prog 17:=enters Tryz.func17 rfl (by decide)
theorem T2:Enters Tryz.prog 18:=enters Tryz.func18 rfl (by decide)
theorem E55:Enters Tryz.prog 55:=enters Tryz.func55 rfl (by decide)
end TKSnapS
open TKSnapS
set_option maxRecDepth 10000
theorem kH:DT RT.J5:=fun M M' w w' x vs h=>h
theorem St.K0 {w:World} {B sb mb:Nat} {u:Value} {n:Int} {ml:List (Int×Nat)} {fr:List Int} (h:St w B sb mb u n ml fr) {k:Int} {hb:Nat} (hm:(k,hb)∈ml) {b:Nat} (jz:b=sb∨b=mb∨b=hb∨u.ownBlock=some b):B≤b:=by
 obtain⟨h1,h2,h3⟩:=h.bs;rcases jz with rfl|rfl|rfl|h4
 ·exact h1
 ·exact h2
 ·exact h3 _ hm
 ·exact(h.r.o.base _ h4).1
theorem dQ.ne {w:World} {sb p B hb:Nat} {k upto c c':Int} {x:Value} (h:dQ w sb p k upto c B) (h0:dK w hb c' x):hb≠p:=fun e=>by
 obtain⟨pv,ps,h1,_⟩:=h;subst e;rw[h0]at h1;cases h1
theorem dQ.other {w w':World} {sb p p2 B hb:Nat} {k upto c c' c2 k2 up2:Int} {B2_:Nat} {x:Value} {N:aD} (h:dQ w sb p k upto c B) (s:Step allM w allM w' N) (h0:dK w hb c' x) (h2:dQ w sb p2 k2 up2 c2 B2_) (eD:p2≠p) (hN:∀b,N b→b=hb∨b=p2):dQ w' sb p k upto c B:=h.step s fun b jz=>by
 rcases hN b jz with rfl|rfl
 ·exact⟨h.ne h0,_,_,by decide,h0⟩
 ·obtain⟨_,_,h3,_⟩:=h2;exact⟨eD,_,_,by decide,h3⟩
theorem dQ.hold {w w':World} {sb p B hb:Nat} {k upto c c':Int} {x:Value} {N:aD} (h:dQ w sb p k upto c B) (s:Step allM w allM w' N) (h0:dK w hb c' x) (hN:∀b,N b→b=hb):dQ w' sb p k upto c B:=h.step s fun b jz=>by
 obtain rfl:=hN b jz;exact⟨h.ne h0,_,_,by decide,h0⟩
theorem kW {hb:Nat}:((1:Int),hb)∈[((1:Int),hb)]:=b9 ..
def Ci (w:World) (B B0 sb mb hb:Nat) (x ua:Value) (ps:List Nat) (m j:Nat):Prop:=
 (j<m→St w B sb mb (.slice none 0 0) 1 [((1:Int),hb)] []∧dK w hb ((m:Int)-j) x∧Own RT.J5 34 allM w B0 ua ps∧∀(i p:Nat),j≤i→ps[i]? =some p→B≤p∧∃B,dQ w sb p 1 i 1 B)∧(j=m→∃u',St w B sb mb u' 1 [] [1])
theorem Ci.first {w w':World} {B B0 sb mb hb m:Nat} {x ua:Value} {ps:List Nat} (kg:Left w' B sb mb 1 [((1:Int),hb)] [] (.slice none 0 0) 1 hb ((m:Int)+1) x) (sa:(m:Int)+1≠1→Step allM w allM w' (fun b=>b=hb)) (gh:dK w hb ((m:Int)+1) x) (ho:Own RT.J5 34 allM w B0 ua ps) (iK:∀(i p:Nat),ps[i]? =some p→B≤p∧∃B,dQ w sb p 1 i 1 B):Ci w' B B0 sb mb hb x ua ps m 0:=by
 refine⟨fun hj=>?_,fun e=>kg.2 (by omega)⟩;have hc:(m:Int)+1≠1:=by omega
 obtain⟨h1,h2⟩:=kg.1 hc;refine⟨h1,?_,ho.lp kH (sa hc) (fun b jz e=>by subst e;exact ho.ef gh (by decide) jz),fun i p _ h=>⟨(iK i p h).1,(iK i p h).2.imp fun _ h=>h.hold (sa hc) gh fun _ h=>h⟩⟩;rw[show(m:Int)-(0:Nat)=(m:Int)+1-1 from by omega];exact h2
theorem Ci.next {w w':World} {B B0 sb mb hb m j p Bp:Nat} {x ua:Value} {ps:List Nat} (hj:j<m) (kL:ps.Nodup) (hg:ps[j]? =some p) (gh:dK w hb ((m:Int)-j) x) (ho:Own RT.J5 34 allM w B0 ua ps) (iK:∀(i p:Nat),j≤i→ps[i]? =some p→B≤p∧∃B,dQ w sb p 1 i 1 B) (AR:dQ w sb p 1 j 1 Bp)
  (kg:Left w' B sb mb 1 [((1:Int),hb)] [] (.slice none 0 0) 1 hb ((m:Int)-j) x) (sa:(m:Int)-j≠1→Step allM w allM w' (fun b=>b=hb∨b=p)):Ci w' B B0 sb mb hb x ua ps m (j+1):=by
 refine⟨fun hj=>?_,fun e=>kg.2 (by omega)⟩;have hc:(m:Int)-j≠1:=by omega
 obtain⟨h1,h2⟩:=kg.1 hc;refine⟨h1,?_,ho.lp kH (sa hc) (fun b jz e=>?_),fun i q hi h=>⟨(iK i q (by omega) h).1,(iK i q (by omega) h).2.imp fun _ hq=>hq.other (sa hc) gh AR (fun e=>?_) fun _ h=>h⟩⟩
 ·rw[show(m:Int)-(j+1:Nat)=(m:Int)-j-1 from by omega];exact h2
 ·rcases e with rfl|rfl
  ·exact ho.ef gh (by decide) jz
  ·obtain⟨_,_,h3,_⟩:=AR;exact ho.ef h3 (by decide) jz
 ·subst e;have:=(List.getElem?_inj (by have:=(au.1 hg).1;exact this) kL).1 (hg.trans h.symm);omega
theorem HP {w w':World} {A sb:Nat} {ps:List Nat} (h:∀(j p:Nat),ps[j]? =some p→A≤p∧∃B,dQ w sb p 1 j 1 B) (s:Step allM w allM w' aw):∀(j p:Nat),ps[j]? =some p→A≤p∧∃B,dQ w' sb p 1 j 1 B:=fun j p hp=>⟨(h j p hp).1,(h j p hp).2.imp fun _ h=>h.aW s⟩
theorem yq (w0:World):
  Spec Tryz.prog 21 #[] w0 (fun v w=>v= .bool true∧Step allM w0 allM w aw):=by
 refine aR (args:=[]) (fn:=Tryz.f21) Tryz.func21 rfl (n:=66) Tryz.ntmps21 ?_;have S:Step allM w0 allM w0 aw:=(al _ _).bN (fun _ h=>h.elim) (fun _ _=>trivial);refine ai (ad (ah rfl rfl (ab (ai (ad ?_)))));refine aJ rfl rfl Zp (DL _) (fun r w1 hc=>?_);obtain⟨b1,rfl,s1⟩:=hc;have:=S.size;replace S:=S.ax s1;refine ae rfl rfl (bu rfl rfl rfl (bu rfl rfl rfl (ah rfl rfl (ah rfl rfl (ab (ai (ad ?_)))))));refine aJ rfl rfl Zo (vX _) (fun r w2 hc=>?_);obtain⟨sb,mb,rfl,hs,s2⟩:=hc;have hB:=S.size;have:=S.size;replace S:=S.ax s2;refine ah rfl rfl (ab (ai (ai (ad (ae rfl rfl (Rg.oa qQ rfl rfl rfl (ae rfl rfl (Rg.lL (g:=17) rfl ((by simp)) (ak rfl rfl (ae rfl rfl (ak rfl rfl ?_)))))))))));refine Rg.oa qR rfl rfl rfl (av rfl rfl rfl (ab (mC rfl ((by simp)) (aT (ai (ad (ae rfl rfl (ae rfl rfl ?_))))))));refine aJ rfl rfl Zq (y7 _ hs (by omega)) (fun r5 w5 hc=>?_);obtain⟨hb,rfl,SG,h5,_,s5⟩:=hc;replace S:=S.trans s5 (fun b jz h=>by have:=hs.bs;rcases h with rfl|rfl<;>omega);refine ah rfl rfl (ab (ai (ad (ae rfl rfl (ae rfl rfl ?_)))));refine aJ rfl rfl E55 (DQ _ SG ((gR _ _ _).2 (.inl rfl)) h5 (by omega)) (fun r6 w6 hc=>?_);obtain⟨rfl,hs6,h6,s6⟩:=hc;replace S:=S.trans s6 (fun b jz h=>by have:=SG.K0 ((gR _ _ _).2 (.inl rfl)) (b:=b) (by first|exact h|exact .inr (.inr (.inl h))|(rcases h with h|h<;>simp[h]));omega);refine ah rfl rfl (ab (ai (ad (ae rfl rfl (ae rfl rfl ?_)))));refine aJ rfl rfl O9 (wg _ hs6 ((gR _ _ _).2 (.inl rfl)) h6 (by omega) (by omega)) (fun r7 w7 hc=>?_);obtain⟨rfl,XU,h7,s7⟩:=hc;replace S:=S.trans s7 (fun b jz h=>by have:=hs6.K0 ((gR _ _ _).2 (.inl rfl)) (b:=b) (by first|exact h|exact .inr (.inr (.inl h))|(rcases h with h|h<;>simp[h]));omega)
 refine ae rfl rfl (bu rfl rfl rfl (bu rfl rfl rfl (ah rfl rfl (ah rfl rfl (ab (ai (ad (ae rfl rfl (ae rfl rfl ?_)))))))));refine aJ rfl rfl O9 (wh _ XU ((gR _ _ _).2 (.inl rfl)) h7 (by omega) (by omega)) (fun r8 w8 hc=>?_);obtain⟨rfl,⟨u8,hs8⟩,s8⟩:=hc;replace S:=S.trans s8 (fun b jz h=>by have:=XU.K0 ((gR _ _ _).2 (.inl rfl)) (b:=b) (by first|exact h|exact .inr (.inr (.inl h))|(rcases h with h|h<;>simp[h]));omega);refine ae rfl rfl (bu rfl rfl rfl (bu rfl rfl rfl (ah rfl rfl (ah rfl rfl (ab (ai (ad (ae rfl rfl (jD rfl rfl rfl (ae rfl rfl (Rg.qT (g:=41) rfl ((by decide)) ?_)))))))))));refine ak rfl rfl (ae rfl rfl (ak rfl rfl (jD rfl rfl rfl (aP rfl rfl rfl (ae rfl rfl (Rg.qT (g:=45) rfl ((by decide)) (ak rfl rfl (ae rfl rfl (ak rfl rfl (km rfl rfl (br (v':= .bool true) rfl ?_)))))))))));refine aP rfl rfl rfl (ae rfl rfl (ak rfl rfl (ae rfl rfl (ak rfl rfl (jD rfl rfl rfl (aP rfl rfl rfl (ae rfl rfl (Rg.qT (g:=53) rfl ((by decide)) (ak rfl rfl (ae rfl rfl (br (v':= .bool true) rfl ?_)))))))))));refine aP rfl rfl rfl (ae rfl rfl (ak rfl rfl (ae rfl rfl (ak rfl rfl (jD rfl rfl rfl (aP rfl rfl rfl (ae rfl rfl (Rg.qT (g:=60) rfl ((by decide)) (ak rfl rfl (ae rfl rfl (ak rfl rfl ?_)))))))))));refine aJ rfl rfl T2 (oS _ hs8) (fun r9 w9 hc=>?_);obtain⟨⟨a9,c9,rfl⟩,s9⟩:=hc;have:=S.size;replace S:=S.ax s9;refine ak rfl rfl (Rg.nc ar rfl rfl (ak rfl rfl (jD rfl rfl rfl (aP rfl rfl rfl (ah rfl rfl (ab (aI ?_)))))));exact aO rfl rfl ⟨by simp,S⟩
end Go.K
namespace Go.K
open Go.Proofs
namespace TKBldJ
theorem Ka:TI Tryz.prog 58 (.slice none 0 0) 1 24:=by unfold TI;kernel_rfl
theorem Kb:TI Tryz.prog 72 (.agg #[(.slice none 0 0),(.slice none 0 0),(.slice none 0 0),(.slice none 0 0)]) 4 96:=by unfold TI;kernel_rfl
theorem rO:TI Tryz.prog 80 (.slice none 0 0) 1 24:=by unfold TI;kernel_rfl
theorem Vs:Enters Tryz.prog 39:=enters Tryz.func39 rfl (by decide)
theorem E40:Enters Tryz.prog 40:=enters Tryz.func40 rfl (by decide)
theorem Vt:Enters Tryz.prog 41:=enters Tryz.func41 rfl (by decide)
theorem E42:Enters Tryz.prog 42:=enters Tryz.func42 rfl (by decide)
theorem Vu:Enters Tryz.prog 43:=enters Tryz.func43 rfl (by decide)
end TKBldJ
open TKBldJ
set_option maxRecDepth 10000
set_option maxHeartbeats 4000000 in
theorem Cj {M:aD} {L:List En} {v0:Value} (w0:World) (hM:Lt M w0) (hv:(RT.en.sl).V M w0 L v0) (hl:∀e∈L,∀f∈e.1.2,f.1.length≤900000∧f.2.length≤900000) (hn:L.length≤100000) (fY:B9 (-1) L=true):
  Spec Tryz.prog 11 #[v0] w0 (fun v w=>∃s,v= .tuple #[s,.int .i64 0]∧cf RT.se M w s (KR (jt L))∧Step M w0 M w aw):=by
 have lu:=hM;have hF:=ud fY
 have Xr:(keysOf L).length≤500000000:=by
  have h1:=(pR L).nodup.length_le_of_subset (l₂:=ik L) (fun x hx=>lE.1 hx);have:=qH hF;omega
 have I8:∀k∈keysOf L,k.length≤43:=fun k hk=>rp hF k (lE.1 hk)
 refine aR (args:=[_]) (fn:=Tryz.f11) Tryz.func11 rfl (n:=63) Tryz.ntmps11 ?_;have S:Step M w0 M w0 aw:=(al _ _).bN (fun _ h=>h.elim) (fun _ h=>h.elim);refine ai (ad (ah rfl rfl (ah rfl rfl (ab (ai (ad ?_))))));refine aJ rfl rfl Vs (GY (Z:=fun k=>w0.heap.size≤k) (B:=w0.heap.size) _ hM (aZ _) (fun k hk=>hk)) (fun r1 w1 hc=>?_);obtain⟨M1,b1,rfl,_,fE,s1⟩:=hc;replace fE:=fE.Ee (Z':=fun k=>w0.heap.size≤k∧k<w1.heap.size) (fun c hc dA=>⟨hc,dA⟩);replace hv:=hv.le s1.le;replace hM:=s1.lt hM;have:=S.size;replace S:=S.ax s1;refine ah rfl rfl (ab (ai (ad ?_)));refine ew M1 Kb rfl (fun eS DM PW PX ll nU=>?_);obtain⟨FP,tu⟩:∃M',M'=ins M1 eS:=⟨_,rfl⟩;rw[←tu]at nU;have tv:FP eS:=by rw[tu];exact .inl rfl
 change DM.heap[eS]? =some (.cells #[.slice none 0 0,.slice none 0 0,.slice none 0 0,.slice none 0 0] _ _)at ll;replace hv:=hv.le nU.le;replace fE:=fE.aW nU;replace hM:=nU.lt hM;have:=S.size;replace S:=S.ax nU;refine ab (ai (ai (ad (ae rfl rfl (bM gw rfl hv rfl (ae rfl rfl (ab (a7 ?_))))))));refine dd (σ:=Nat×Value×Value) (fun q=>[(4,.pointer (some ⟨b1,0,none⟩)),(5,.pointer (some ⟨eS,0,none⟩)),(12,v0),(13,.int .i64 (L.length:Int)),(14,.int .i64 (q.1:Int))]) (fun q w=>∃M' words,Lt M' w∧Step M w0 M' w aw∧(RT.en.sl).V M' w L v0∧lF (ZP w0.heap.size eS q.2.1 q.2.2) M' w w0.heap.size b1 (L.take q.1) words (kG (-1) (L.take q.1))∧w.heap[eS]? =some (.cells #[q.2.1,q.2.2,.slice none 0 0,.slice none 0 0] 72 (0,0))∧M' eS∧Own (RT.int .i64) 3 M' w w0.heap.size q.2.1 ((L.take q.1).map (·.1.1))∧Own (RT.int .i64) 3 M' w w0.heap.size q.2.2 ((L.take q.1).map (·.2))∧iN q.2.1 q.2.2∧0≤words∧words≤500*(q.1:Int)∧q.1≤L.length) (fun q=>L.length-q.1) (0,.slice none 0 0,.slice none 0 0) (.cons rfl (.cons rfl (.cons rfl (.cons rfl (.cons rfl .nil))))) ?_ ?_
 ·exact⟨_,0,hM,S,hv,fE.Ee (Z':=ZP w0.heap.size eS (.slice none 0 0) (.slice none 0 0)) (fun c hc dA=>⟨hc.1,(fun h=>by have:=hc.2;omega),(fun h=>by cases h),(fun h=>by cases h)⟩),ll,tv,eh _ _ _ _ _,eh _ _ _ _ _,iN.nil _,by omega,by omega,bG _⟩
 ·clear hM S hv fE;rintro⟨i,vi,vs⟩ w ⟨M2,words,hM,S,hv,fE,g2,cK,kX,k3,I6,Iw,hw2,hi⟩;dsimp only at fE g2 kX k3 I6 hw2 hi ⊢;refine ai (ad (bY rfl rfl rfl (ab (ai ?_))));refine bK rfl (fun c4=>?_) (fun c4=>?_)
  ·refine aT (ai (a7 (ai (ad ?_))));refine dq (M:=M2) gw CE rfl rfl rfl hv (aq _ _) (by omega) (fun u5 e DY FD=>?_);rw[aG]at DY;obtain⟨K1,Ot⟩:=Hz fY DY;have hem:=aN DY;refine cM (M:=M2) (A:=RT.en) dr rfl CE (by decide) rfl rfl rfl FD (aq _ _) (fun v5 oe=>?_);obtain⟨hr1,Ui⟩:=N7 oe;refine rI (A:=RT.en) (M:=M2) CE rfl rfl rfl rfl rfl (by assumption) (aq _ _) hM (fun XG ag0 rq AL ag1=>?_);have:=aj g2;replace cK:=(AL.mem _ this).2 cK;replace g2:=AL.aE g2;replace hv:=hv.le AL.le;replace kX:=kX.aW AL;replace k3:=k3.aW AL;replace fE:=fE.aW AL;replace hM:=AL.lt hM;have:=S.size;replace S:=S.ax AL;refine ab (ai (ai (ad (ae rfl rfl ?_))));refine cM (M:=M2) (A:=RT.en) dr rfl CE (by decide) rfl rfl rfl rq (aq _ _) (fun v6 nw=>?_);refine aJ rfl rfl E40 (G0 (Z:=ZP w0.heap.size eS vi vs) _ hM (fun k hk=>⟨by have:=S.size;omega,fun h=>by have:=aj g2;omega,fun h=>by have:=(kX.base k h).2;omega,fun h=>by have:=(k3.base k h).2;omega⟩) fE (by have:=S.size;omega) nw (hl e hem) (fun x hx=>hF x (List.mem_of_mem_take hx)) (by simp;omega) (by omega)) (fun r6 w6 hc=>?_);obtain⟨M6,Hg,s6,rfl,_,Ly⟩:=hc;replace fE:=Ly K1;have KE:(pQ e).length≤500:=(hF e hem).many;refine br (v':= .int .i64 0) (by rw[K1]) ?_;replace kX:=kX.step s6 (fun c hc h=>h.1.2.2.1 hc);replace k3:=k3.step s6 (fun c hc h=>h.1.2.2.2 hc);replace cK:=(s6.mem _ (aj g2)).2 cK;replace g2:=s6.bB g2 (fun h=>h.1.2.1 rfl);replace hv:=hv.le s6.le;replace rq:=rq.le (by decide) s6.le;replace S:=S.cO s6 (fun k hk=>hk.1.1);replace hM:=Hg;rw[Ot.symm]at fE;refine ah rfl rfl (ab (ai (ad (ae rfl rfl (eg rfl rfl rfl (ab (mC rfl ((fun h=>h rfl)) (aT ?_))))))));have T3:=g2;have SH:=cK
   have YE:=hv;have SI:=fE;have HQ:=kX;have HR:=k3;have hMp:=hM;have Sp:=S;obtain⟨P6,Zr⟩:∃P6:Value→World→Prop,P6=fun v w'=>Own (RT.int .i64) 3 (jo v) w' w0.heap.size v ((L.take i).map (·.1.1)++[e.1.1])∧(∀c,v.ownBlock=some c→w6.heap.size≤c∨vi.ownBlock=some c):=⟨_,rfl⟩
   have h6:∀{v:Value} {w w':World},P6 v w→Step M6 w M6 w' aw→P6 v w':=fun {v w w'} h s=>by rw[Zr]at h ⊢;exact⟨h.1.KU s (fun _ _ h=>h),h.2⟩
   apply T.Sb (M:=M6) [0,1,2,3,4,5,6,7,8,9,10,11,13,12,14,15,16] 13 12 37 (.pointer (some ⟨eS,0,none⟩)) [(6,jw vi)] [b5.eq (.pointer (some ⟨eS,0,none⟩)),b5.eq vi,b5.ptr RT.dc e.1,b5.ptr (RT.int .i64) e.1.1,b5.eq (.int .i64 e.1.1),b5.V ((RT.int .i64).sl) [e.1.1],(b5.mk' (fun v w=>P6 v w) (fun h s=>h6 h s)),b5.eq (.pointer (some ⟨eS,1,none⟩)),b5.eq vs,b5.ptr (RT.int .i64) e.2,b5.eq (.int .i64 e.2),b5.V ((RT.int .i64).sl) [e.2],b5.eq (.pointer (some ⟨eS,0,none⟩))] mixed
   ·simp+decide only[vU,qq,eL,List.map_nil,ur,uu,p6,ek,mL,List.idxOf_cons,cond_true,cond_false,Nat.reduceBEq,Nat.reduceAdd,beq_self_eq_true];rfl
   ·rfl
   ·rfl
   ·rfl
   ·rfl
   ·rfl
   ·rfl
   ·rfl
   ·rfl
   ·rfl
   ·rfl
   ·rfl
   ·exact fun ρ w h=>B8 (size:=1) (o:=0) (o':=0) bF rfl rfl lI (by decide) (h (.tmp 5) _ rfl) w
   ·intro p hp b hb;simp only[cW,List.not_mem_nil,or_false]at hp;subst hp;exact kX.mut_ b hb
   ·exact fun p hp=>by
     simp only[cW,List.not_mem_nil,or_false]at hp;subst hp;show(6:Nat)≠12;decide
   ·exact rA.st (by exact⟨fun _ _ _ _=>trivial,⟨fun _ _ _ _=>trivial,⟨fun _ _ _ _=>trivial,⟨fun _ _ _ _=>trivial,⟨fun _ _ _ _=>trivial,⟨fun _ _ _ _=>trivial,⟨fun p hp b hb=>(by simp at hp),⟨fun _ _ _ _=>trivial,⟨fun _ _ _ _=>trivial,⟨fun _ _ _ _=>trivial,⟨fun _ _ _ _=>trivial,⟨fun _ _ _ _=>trivial,⟨fun _ _ _ _=>trivial,trivial⟩⟩⟩⟩⟩⟩⟩⟩⟩⟩⟩⟩⟩)
   intro wR9 sA9;have HS:=sA9 M6;have:=aj g2;replace cK:=(HS.mem _ this).2 cK;replace g2:=HS.aE g2;replace hv:=hv.le HS.le;replace rq:=rq.le (by decide) HS.le;replace kX:=kX.aW HS;replace k3:=k3.aW HS;replace fE:=fE.aW HS;replace hM:=HS.lt hM;have:=S.size;replace S:=S.ax HS;have Zs:=g2;have SJ:=kX;have ag5:=k3;have hz6:=HS.size;refine⟨?_,?_⟩
   ·refine aH ?_ ?_
    ·intro wD E sD;replace sD:Step M6 _ M6 wD (jw vi):=sD;refine aB (o':=0) bF rfl rfl lI (by decide) rfl rfl ?_;exact ab ⟨rfl,rfl,_,rfl,rfl,al _ _⟩
    refine aH ?_ ?_
    ·intro wD E sD;replace sD:Step M6 _ M6 wD aw:=sD;refine ay (az ar rfl rfl rfl (sD.aE Zs) rfl ?_);exact ab ⟨rfl,rfl,_,rfl,rfl,al _ _⟩
    refine aH ?_ ?_
    ·intro wD E sD;replace sD:Step M6 _ M6 wD (jw vi):=sD;refine aM (M:=M6) (A:=RT.en) (B:=RT.dc) dr rfl rfl lY (by decide) QC rfl rfl (by decide) rq sD.le (fun uf yi=>?_);exact ab ⟨rfl,rfl,_,rfl,yi,al _ _⟩
    refine aH ?_ ?_
    ·intro wD E sD;replace sD:Step M6 _ M6 wD (jw vi):=sD;intro v2 yB;refine aM (M:=M6) (A:=RT.dc) (B:=RT.int .i64) aS rfl rfl I3 (by decide) QB rfl rfl (by decide) (show cf RT.dc M6 wD v2 e.1 from yB) (aq _ _) (fun uf yi=>?_);exact ab ⟨rfl,rfl,_,rfl,yi,al _ _⟩
    refine aH ?_ ?_
    ·intro wD E sD;replace sD:Step M6 _ M6 wD (jw vi):=sD;intro v3 uT;refine cn (M:=M6) an rfl rfl (show cf (RT.int .i64) M6 wD v3 e.1.1 from uT) (aq _ _) (fun l2=>?_);exact ab ⟨rfl,rfl,_,rfl,rfl,al _ _⟩
    refine aH ?_ ?_
    ·intro wD E sD;replace sD:Step M6 _ M6 wD aw:=sD;refine ay ?_;refine fa (A:=RT.int .i64) (hn:=by decide) (M:=M6) ar I3 (by decide) rfl rfl (sD.lt hM) (gu hr1) (.inr ⟨rfl,rfl⟩) (fun uS wS hS sS=>?_);exact ab ⟨rfl,rfl,_,rfl,hS,sS⟩
    refine aH ?_ ?_
    ·intro wD E sD;replace sD:Step M6 _ M6 wD aw:=sD;refine ay ?_;intro v5 oe;replace sD:Step M6 wR9 M6 wD aw:=sD;refine Rg.kr (M:=M6) (base:=w0.heap.size) ar I3 rfl rfl rfl rfl (SJ.aW sD) (show((RT.int .i64).sl).V M6 wD [e.1.1] v5 from oe) (aq _ _) (by simp;omega) (by simp;omega) (by have:=sD.size;have:=S.size;omega) (fun vA wA T4 sA hFA=>?_);exact ab ⟨rfl,rfl,_,rfl,by show P6 vA wA;rw[Zr];exact⟨T4.lone,fun c hc=>(hFA c hc).elim (fun h=> .inl (by have:=sD.size;omega)) .inr⟩,sA.back⟩
    refine aH ?_ ?_
    ·intro wD E sD;replace sD:Step M6 _ M6 wD (jw vi):=sD;refine aB (o':=1) bF rfl rfl lI (by decide) rfl rfl ?_;exact ab ⟨rfl,rfl,_,rfl,rfl,al _ _⟩
    refine aH ?_ ?_
    ·intro wD E sD;replace sD:Step M6 _ M6 wD (jw vi):=sD;refine ay (az ar rfl rfl rfl (sD.bB Zs (fun h=>SJ.ef Zs (by decide) h)) rfl ?_);exact ab ⟨rfl,rfl,_,rfl,rfl,al _ _⟩
    refine aH ?_ ?_
    ·intro wD E sD;replace sD:Step M6 _ M6 wD (jw vi):=sD;refine aM (M:=M6) (A:=RT.en) (B:=RT.int .i64) dr rfl rfl I3 (by decide) TE rfl rfl (by decide) rq sD.le (fun uf yi=>?_);exact ab ⟨rfl,rfl,_,rfl,yi,al _ _⟩
    refine aH ?_ ?_
    ·intro wD E sD;replace sD:Step M6 _ M6 wD (jw vi):=sD;intro v9 IU;refine cn (M:=M6) an rfl rfl (show cf (RT.int .i64) M6 wD v9 e.2 from IU) (aq _ _) (fun l2=>?_);exact ab ⟨rfl,rfl,_,rfl,rfl,al _ _⟩
    refine aH ?_ ?_
    ·intro wD E sD;replace sD:Step M6 _ M6 wD (jw vi):=sD;refine ay ?_;refine fa (A:=RT.int .i64) (hn:=by decide) (M:=M6) ar I3 (by decide) rfl rfl (sD.lt hM) (gu Ui) (.inr ⟨rfl,rfl⟩) (fun uS wS hS sS=>?_);exact ab ⟨rfl,rfl,_,rfl,hS,sS⟩
    refine aH ?_ ?_
    ·intro wD E sD;replace sD:Step M6 _ M6 wD (jw vi):=sD;refine ay (ay ?_);intro v2 yB;intro v3 uT;refine ay ?_;intro v5 oe;intro v6 nw;refine ay (ay (aB (o':=0) bF rfl rfl lI (by decide) rfl rfl ?_));exact ab ⟨rfl,rfl,_,rfl,rfl,al _ _⟩
    exact bE.nil
   ·intro O1 C7;replace C7:Step M6 _ M6 O1 (jw vi):=C7;refine ay (ay ?_);intro W7 G2;intro ag7 ach;refine ay ?_;intro ag8 aci;intro yr Df;refine ay (ay ?_);intro ag9 acj;refine ay ?_;intro SK Ck;refine ay ?_;replace Df:P6 yr O1:=Df;rw[Zr]at Df;obtain⟨wG,Zt⟩:=Df;replace Ck:((RT.int .i64).sl).V M6 O1 [e.2] SK:=Ck;have sX:Step M6 w6 M6 O1 (jw vi):=(HS.bN (fun _ h=>h.elim) (fun b h=>HQ.mut_ b h)).trans C7 (fun b _ h=>h);have Zu:=HR.step sX (fun c hc h=>I6 c h hc);refine Rg.kr (M:=M6) (base:=w0.heap.size) ar I3 rfl rfl rfl rfl Zu Ck (aq _ _) (by simp;omega) (by simp;omega) (by have:=Sp.size;have:=sX.size;omega) (fun v12 EF Zv kq SL=>?_)
    have GA:∀c,yr.ownBlock=some c→vs.ownBlock≠some c:=fun c hc hv=>by
     rcases Zt c hc with h|h
     ·have:=(HR.base c hv).2;omega
     ·exact I6 c h hv
    have SM:=wG.KU kq (fun c hc h=>GA c hc h)
    have SN:iN v12 yr:=fun c hc hc6=>by
     rcases SL c hc with h|h
     ·have:=(wG.base c hc6).2;omega
     ·exact GA c hc6 h
    have JH:∀c,v12.ownBlock=some c→w6.heap.size≤c∨vs.ownBlock=some c:=fun c hc=>(SL c hc).elim (fun h=> .inl (by have:=sX.size;omega)) .inr
    have sZ:Step M6 w6 (jQ M6 v12) EF (fun k=>jw vi k∨jw vs k):=(sX.bN (fun _ h=> .inl h) (fun b h=>h.elim (HQ.mut_ b) (HR.mut_ b))).trans kq (fun b _ h=> .inr h);obtain⟨SO,Ou⟩:∃M',M'=jQ (jQ M6 v12) yr:=⟨_,rfl⟩;have sW:Step M6 w6 SO EF (fun k=>jw vi k∨jw vs k):=by rw[Ou];exact sZ.Yu (fun c hc=>⟨(SM.base c hc).2,(Zt c hc).elim .inl (fun h=> .inr (.inr (HQ.mut_ c h)))⟩)
    have kX:=SM.Fj (M':=SO) (by rw[Ou];exact fun b hb=> .inl hb);have k3:=Zv.Fj (M':=SO) (by rw[Ou];exact fun b hb=> .inr (.inl hb));have cK:=(sW.mem _ (aj T3)).2 SH;have g2:=sW.bB T3 (fun h=>h.elim (HQ.ef T3 (by decide)) (HR.ef T3 (by decide)));have fE:=((SI.Ee (Z':=fun k=>ZP w0.heap.size eS vi vs k∧ZP w0.heap.size eS yr v12 k) (fun c hc dA=>⟨hc,hc.1,hc.2.1,fun h=>(Zt c h).elim (fun h=>by omega) hc.2.2.1,fun h=>(JH c h).elim (fun h=>by omega) hc.2.2.2⟩)).step sW (fun k hk hz=>hk.elim hz.1.2.2.1 hz.1.2.2.2)).Ee (Z':=ZP w0.heap.size eS yr v12) (fun c hc _=>hc.2);have hv:=YE.le sW.le;have S:=Sp.cO sW (fun k hk=>hk.elim (fun h=>(HQ.base k h).1) (fun h=>(HR.base k h).1));have hM:=sW.lt hMp;refine ab ⟨rfl,rfl,fun h=>absurd rfl h,?_⟩;refine bL (M:=SO) lI rfl rfl g2 rfl (by obtain⟨_,_,he,_⟩:=kX.isSlice;rw[he];rfl) cK (fun MX g14 ij=>?_);replace g14:MX.heap[eS]? =some (.cells #[yr,vs,.slice none 0 0,.slice none 0 0] 72 (0,0)):=g14;replace kX:=kX.step ij (fun c hc (h:c=eS)=>kX.ef g2 (by decide) (h▸hc));replace k3:=k3.step ij (fun c hc (h:c=eS)=>k3.ef g2 (by decide) (h▸hc));replace cK:=(ij.mem _ (aj g2)).2 cK;replace fE:=fE.step ij (fun k (hk:k=eS) hz=>hz.2.1 hk);replace hv:=hv.le ij.le;replace S:=S.cO ij (fun k (hk:k=eS)=>by rw[hk];omega);replace hM:=ij.lt hM;clear g2;have g2:=g14;refine ab ⟨rfl,rfl,fun h=>absurd rfl h,?_⟩;refine aB (o':=1) bF rfl rfl lI (by decide) rfl rfl ?_;refine ab ⟨rfl,rfl,fun h=>absurd rfl h,?_⟩;refine bL (M:=SO) lI rfl rfl g2 rfl (by obtain⟨_,_,he,_⟩:=k3.isSlice;rw[he];rfl) cK (fun KQ g16 B3=>?_);replace g16:KQ.heap[eS]? =some (.cells #[yr,v12,.slice none 0 0,.slice none 0 0] 72 (0,0)):=g16;replace kX:=kX.step B3 (fun c hc (h:c=eS)=>kX.ef g2 (by decide) (h▸hc));replace k3:=k3.step B3 (fun c hc (h:c=eS)=>k3.ef g2 (by decide) (h▸hc));replace cK:=(B3.mem _ (aj g2)).2 cK
    replace fE:=fE.step B3 (fun k (hk:k=eS) hz=>hz.2.1 hk);replace hv:=hv.le B3.le;replace S:=S.cO B3 (fun k (hk:k=eS)=>by rw[hk];omega);replace hM:=B3.lt hM;clear g2;have g2:=g16;refine ab ⟨rfl,rfl,fun h=>absurd rfl h,?_⟩;refine oC (ad (bA rfl rfl rfl (by omega) (ae rfl rfl (ab ?_))));have et:L.take (i+1)=L.take i++[e]:=by rw[cw,DY,dp]
    rw[et]at fE;refine⟨rfl,(i+1,yr,v12),(.cons rfl (.cons rfl (.cons rfl (.cons rfl (.cons rfl .nil))))),?_,?_⟩
    ·exact⟨_,_,hM,S,hv,by rw[et];exact fE,g2,cK,by rw[et,ic];exact kX,by rw[et,ic];exact k3,SN.symm,by omega,by dsimp only;omega,by dsimp only;omega⟩
    ·dsimp only;omega
  ·refine cB (ai (ad ?_));have hLi:L.take i=L:=bT (by omega);rw[hLi]at fE kX k3;refine ae rfl rfl ?_;refine aJ rfl rfl Vt (BU _ hM fE hF (by omega)) (fun rk PY hc=>?_);obtain⟨xg,oP⟩:=hc;have:=aj g2;replace cK:=(oP.mem _ this).2 cK;replace g2:=oP.aE g2;replace hv:=hv.le oP.le;replace kX:=kX.aW oP;replace k3:=k3.aW oP;replace fE:=fE.aW oP;replace hM:=oP.lt hM;have:=S.size;replace S:=S.ax oP;refine aB (o':=2) bF rfl rfl CD (by decide) rfl rfl ?_;refine bL (M:=M2) CD rfl rfl g2 rfl (j0 xg rfl rfl) cK (fun sV cj ep=>?_);change sV.heap[_]? =some (Obj.cells #[vi,vs,rk,.slice none 0 0] _ _)at cj;have:=aj g2;replace cK:=(ep.mem _ this).2 cK;replace hv:=hv.le ep.le;replace xg:=xg.le ep.le;replace kX:=kX.step ep (fun c hc (h:c=eS)=>kX.ef g2 (by decide) (h▸hc));replace k3:=k3.step ep (fun c hc (h:c=eS)=>k3.ef g2 (by decide) (h▸hc));replace fE:=fE.stepT ep (by first|exact fun k hk=>by(obtain⟨cs,hc⟩:=o2.isCells hk;exact⟨cs,_,hc,by decide,by decide,by decide⟩)|exact fun k (hk:k=eS)=>⟨_,_,hk▸g2,by decide,by decide,by decide⟩);replace hM:=ep.lt hM;have:=S.size;replace S:=S.trans ep (fun k hk h=>by have h:_=_:=h;subst h;first|(exfalso;omega)|(show _≤_;omega)|exact⟨by first|omega|assumption,(S.mem _ hk).1 ((ep.mem _ (aj g2)).1 cK)⟩|exact .inl rfl|exact .inr rfl|exact .inr (.inl rfl)|exact .inr (.inr rfl)|exact .inr (.inr (.inl rfl))|exact rfl);have Gk:=cj;clear g2;have g2:=Gk;clear Gk;refine ab (ai (ai (ad (aB (o':=2) bF rfl rfl CD (by decide) rfl rfl (az aV rfl rfl rfl g2 rfl (br (v':=rk) rfl (bM aV rfl xg rfl (ae rfl rfl (ab (a7 ?_))))))))));refine dd (σ:=Nat×Value) (fun q=>[(4,.pointer (some ⟨b1,0,none⟩)),(5,.pointer (some ⟨eS,0,none⟩)),(44,rk),(45,.int .i64 ((keysOf L).length:Int)),(46,.int .i64 (q.1:Int))]) (fun q w=>∃M',Lt M' w∧Step M w0 M' w aw∧lF (ZP w0.heap.size eS vi vs) M' w w0.heap.size b1 L words (kG (-1) L)∧w.heap[eS]? =some (.cells #[vi,vs,rk,q.2] 72 (0,0))∧M' eS∧Own (RT.int .i64) 3 M' w w0.heap.size vi (L.map (·.1.1))∧Own (RT.int .i64) 3 M' w w0.heap.size vs (L.map (·.2))∧Own ((RT.po).sl) 80 M' w w0.heap.size q.2 (((keysOf L).take q.1).map (pk L))∧(RT.str.sl).V M' w (keysOf L) rk∧q.1≤(keysOf L).length) (fun q=>(keysOf L).length-q.1) (0,.slice none 0 0) (.cons rfl (.cons rfl (.cons rfl (.cons rfl (.cons rfl .nil))))) ?_ ?_
   ·exact⟨_,hM,S,fE,g2,cK,kX,k3,eh _ _ _ _ _,xg,bG _⟩
   ·clear hM S fE g2 cK kX k3 xg hv;rintro⟨i3,vl⟩ w ⟨M3,hM,S,fE,g2,cK,kX,k3,o2,xg,Ub⟩;dsimp only at g2 o2 Ub ⊢;refine ai (ad (bY rfl rfl rfl (ab (ai ?_))));refine bK rfl (fun F6=>?_) (fun F6=>?_)
    ·refine aT (ai (a7 (ai (ad ?_))));refine dq (M:=M3) aV I9 rfl rfl rfl xg (aq _ _) (by omega) (fun u14 k Ov JQ=>?_);rw[aG]at Ov;refine bZ (M:=M3) aF rfl rfl rfl rfl rfl JQ (aq _ _) (fun vk hvk=>?_);obtain rfl:=fH hvk;refine ah rfl rfl (ab ?_);apply T.mW 4 [0,1] 2 aw mixed rfl rfl rfl rfl;intro NH Hk;have mI:=Hk M3;have:=aj g2;replace cK:=(mI.mem _ this).2 cK;replace g2:=mI.aE g2;replace xg:=xg.le mI.le;replace kX:=kX.aW mI;replace k3:=k3.aW mI;replace o2:=o2.aW mI;replace fE:=fE.aW mI;replace hM:=mI.lt hM;have:=S.size;replace S:=S.ax mI;refine aB (o':=3) bF rfl rfl Ka (by decide) rfl rfl ?_;refine ab ⟨rfl,rfl,rfl,?_⟩;refine az k4 rfl rfl rfl (by first|assumption|exact bQ mI (by assumption)) rfl ?_;refine ab ⟨rfl,rfl,rfl,?_⟩;refine ae rfl rfl ?_;refine ab ⟨rfl,rfl,rfl,?_⟩;refine ae rfl rfl ?_;refine ab ⟨rfl,rfl,rfl,?_⟩;refine fo ?_;refine⟨gO ⟨fQ bF rfl Ka (by decide),⟨ey rfl g2 (fun h=>h),trivial⟩⟩,?_⟩;have kp:=iw aw NH;refine aJ rfl rfl E42 (BV (k:=k) _ hM fE hF (by omega) (by have:=I8 k (aN Ov);omega)) (fun Wv MP hc=>?_);obtain⟨G4,qC⟩:=hc;have:=aj g2;replace cK:=(qC.mem _ this).2 cK;replace g2:=qC.aE g2;replace xg:=xg.le qC.le;replace kX:=kX.aW qC;replace k3:=k3.aW qC;replace o2:=o2.aW qC;replace fE:=fE.aW qC;replace hM:=qC.lt hM;have:=S.size;replace S:=S.ax qC;refine(fun(kp:ed _ _ _)=>ab ⟨rfl,rfl,fun _=>kp,?_⟩) (by first|exact kp|exact kp.o0 (by assumption)|exact kp.goN (by assumption)|exact kp.go (by assumption) (fun _ _ h=>by first|exact h|exact h.elim));refine fa (A:=((RT.po).sl)) (hn:=by decide) (M:=M3) k4 rO (by decide) rfl rfl hM (G4) (.inr ⟨rfl,rfl⟩) (fun acm KJ uk il=>?_)
     have:=aj g2;replace cK:=(il.mem _ this).2 cK;replace g2:=il.aE g2;replace xg:=xg.le il.le;replace G4:=G4.le il.le;replace kX:=kX.aW il;replace k3:=k3.aW il;replace o2:=o2.aW il;replace fE:=fE.aW il;replace hM:=il.lt hM;have:=S.size;replace S:=S.ax il;refine(fun(kp:ed _ _ _)=>ab ⟨rfl,rfl,fun _=>kp,?_⟩) (by first|exact kp|exact kp.o0 (by assumption)|exact kp.goN (by assumption)|exact kp.go (by assumption) (fun _ _ h=>by first|exact h|exact h.elim));refine cQ (M:=M3) (base:=w0.heap.size) k4 rO rfl rfl rfl rfl o2 uk (aq _ _) (by simp;omega) (by simp;omega) (S.size) (fun K2 SP acn Ow ot=>?_);have:=aj g2;replace cK:=(ot.mem _ this).2 cK;replace g2:=ot.bB g2 (fun h=>by first|exact o2.dF g2 h|exact o2.ef g2 (by decide) h|(have:=(o2.base _ h).1;omega));replace xg:=xg.le ot.le;replace G4:=G4.le ot.le;replace uk:=uk.le ot.le;replace kX:=kX.step ot (fun b h1 h2=>kX.iE o2 (by decide) h1 h2);replace k3:=k3.step ot (fun b h1 h2=>k3.iE o2 (by decide) h1 h2);replace fE:=fE.stepT ot (by first|exact fun k hk=>by(obtain⟨cs,hc⟩:=o2.isCells hk;exact⟨cs,_,hc,by decide,by decide,by decide⟩)|exact fun k (hk:k=eS)=>⟨_,_,hk▸g2,by decide,by decide,by decide⟩);replace hM:=ot.lt hM;have:=S.size;replace S:=S.dE ot o2 (aZ _);replace o2:=Ow;refine ab ⟨rfl,rfl,fun h=>absurd rfl h,?_⟩;refine aB (o':=3) bF rfl rfl Ka (by decide) rfl rfl ?_;refine ab ⟨rfl,rfl,fun h=>absurd rfl h,?_⟩;refine bL (M:=SP) Ka rfl rfl g2 rfl (by obtain⟨_,_,he,_⟩:=o2.isSlice;rw[he];rfl) cK (fun SQ K3 nI=>?_);change SQ.heap[_]? =some (Obj.cells #[vi,vs,rk,K2] _ _)at K3;have:=aj g2;replace cK:=(nI.mem _ this).2 cK;replace xg:=xg.le nI.le;replace G4:=G4.le nI.le;replace uk:=uk.le nI.le;replace kX:=kX.step nI (fun c hc (h:c=eS)=>kX.ef g2 (by decide) (h▸hc))
     replace k3:=k3.step nI (fun c hc (h:c=eS)=>k3.ef g2 (by decide) (h▸hc));replace o2:=o2.step nI (fun c hc (h:c=eS)=>o2.ef g2 (by decide) (h▸hc));replace fE:=fE.stepT nI (by first|exact fun k hk=>by(obtain⟨cs,hc⟩:=o2.isCells hk;exact⟨cs,_,hc,by decide,by decide,by decide⟩)|exact fun k (hk:k=eS)=>⟨_,_,hk▸g2,by decide,by decide,by decide⟩);replace hM:=nI.lt hM;have:=S.size;replace S:=S.trans nI (fun k hk h=>by have h:_=_:=h;subst h;first|(exfalso;omega)|(show _≤_;omega)|exact⟨by first|omega|assumption,(S.mem _ hk).1 ((nI.mem _ (aj g2)).1 cK)⟩|exact .inl rfl|exact .inr rfl|exact .inr (.inl rfl)|exact .inr (.inr rfl)|exact .inr (.inr (.inl rfl))|exact rfl);have Gk:=K3;clear g2;have g2:=Gk;clear Gk;refine ab ⟨rfl,rfl,fun h=>absurd rfl h,?_⟩;refine oC (ad (bA rfl rfl rfl (by omega) (ae rfl rfl (ab ?_))));refine⟨rfl,(i3+1,K2),(.cons rfl (.cons rfl (.cons rfl (.cons rfl (.cons rfl .nil))))),?_,?_⟩
     ·exact⟨_,hM,S,fE,g2,cK,kX,k3,by rw[cw,Ov,dp,ic];exact o2,xg,by dsimp only;omega⟩
     ·dsimp only;omega
    ·refine cB (ai (ad (fX (vs:=[vi,vs,rk,vl]) bF rfl Kb rfl rfl rfl g2 ?_)));rw[bT (by omega)]at o2;have Rq:RT.pa.V M _ (jt L) _:=WX (x:=jt L) (kX.close lu S (by show(L.map _).length≤_;rw[de];omega)) (k3.close lu S (by show(L.map _).length≤_;rw[de];omega)) (xg.le (Le.close lu S)) (o2.close lu S (by show((keysOf L).map _).length≤_;rw[de];omega));replace S:=S.back;replace hM:=S.lt lu;refine aJ rfl rfl Vu (B6 (p:=jt L) _ hM Rq (JD hF (by omega))) (fun r17 Z1 hc=>?_);obtain⟨OM,SR,_⟩:=hc;obtain⟨sg,rfl,xN⟩:=SR (N6 fY (by omega));replace S:=S.ax OM;refine bu rfl rfl rfl (bu rfl rfl rfl (ah rfl rfl (ah rfl rfl (ab (aI ?_)))));exact dX rfl rfl rfl ⟨sg,rfl,xN,S⟩
end Go.K
namespace Go.K
open Go.Proofs
set_option maxRecDepth 10000
theorem qO {id:Int}:∀(fs:List Fd) (i:Nat) (out:List Fd),lz (id,out)=0→lz (id,lA id i out fs)=0
 |[],_,_,h=>h
 |x::fs,i,out,h=>by
  unfold lA
  split
  ·split
   ·rename_i h1;exact qO fs _ _ h1
   ·exact qO fs _ _ h
  ·exact h
theorem mh {id:Int}:∀(fs:List Fd) (i:Nat) (out:List Fd),oW out→oW (lA id i out fs)
 |[],_,_,h=>h
 |x::fs,i,out,h=>by
  unfold lA
  split
  ·rename_i hi
   split
   ·exact mh fs _ _ (h.snoc (tC x hi))
   ·exact mh fs _ _ h
  ·exact h
theorem Ex (d:Dc):lz (mu d)=0:=qO d.2 0 [] rfl
theorem AM (d:Dc):oW (mu d).2:=mh d.2 0 [] (fun x h=>by cases h)
theorem AN {e:En}:∀{L:List En} {last:Int},B9 last (L++[e])=(B9 last L&&decide (lG (kG last L) e=0))
 |[],last=>by show(decide (lG last e=0)&&true)=(true&&decide (lG last e=0));rw[ix,dy]
 |x::L,last=>by rw[List.cons_append];show(decide (lG last x=0)&&B9 x.2 (L++[e]))=(decide (lG last x=0)&&B9 x.2 L&&decide (lG (kG x.2 L) e=0));rw[AN (L:=L),Bool.and_assoc]
theorem um {e:En}:∀{L:List En} {last:Int},kG last (L++[e])=e.2
 |[],_=>rfl
 |x::L,last=>by simp only[List.cons_append,kG];exact um
theorem AO (l:List Dc) {a s:Int} (ha:0≤a) (hs:1≤s):∀k,B9 (-1) (gD l a s k)=true∧kG (-1) (gD l a s k)<a+s*(k:Int)
 |0=>⟨rfl,by show(-1:Int)<_;simp;omega⟩
 |k+1=>by
  obtain⟨h1,h2⟩:=AO l ha hs k;have e1:a+s*((k+1:Nat):Int)=a+s*(k:Int)+s:=by rw[Int.natCast_add,Int.mul_add];simp;omega
  cases h:l[k]? with
  |none=>rw[tH (List.getElem?_eq_none_iff.1 h),e1];exact⟨h1,by omega⟩
  |some d=>
   rw[tG h,AN,um,h1,e1]
   have:lG (kG (-1) (gD l a s k)) (mu d,a+s*(k:Int))=0:=by
    unfold lG;rw[if_neg (fun h=>h (Ex d)),if_neg (by show¬(a+s*(k:Int)≤_);omega)]
   exact⟨by rw[this];rfl,by show a+s*(k:Int)<_;omega⟩
theorem xh {l:List Dc} {a s:Int}:∀{k:Nat} {e:En},e∈gD l a s k→∃d,e.1=mu d
 |0,e,h=>by cases h
 |k+1,e,h=>by
  rw[gD]at h;rcases dC.1 h with h|h
  ·exact xh h
  ·split at h
   ·rename_i d _;rw[cC.1 h];exact⟨d,rfl⟩
   ·cases h
theorem Cl {l:List Dc} {a s:Int} {k:Nat}:∀e∈gD l a s k,∀f∈e.1.2,f.1.length≤900000∧f.2.length≤900000:=fun e he f hf=>by
 obtain⟨d,hd⟩:=xh he;rw[hd]at hf;have:=AM d f hf;omega
end Go.K
namespace Go.K
open Go.Proofs
set_option maxRecDepth 10000
theorem Ox (L:List En):(KR (jt L)).2.2.2=((keysOf L).map (pk L)).map hG:=rfl
theorem Oy (L:List En):(KR (jt L)).2.2.1.length=((keysOf L).map (pk L)).length:=by rw[de];rfl
end Go.K
namespace Go.K
open Go.Proofs
namespace TKFrees16
theorem Zw:TI Tryz.prog 34 (.pointer none) 1 8:=by unfold TI;kernel_rfl
theorem B0:placesOf Tryz.prog 0=[].map some:=by kernel_rfl
theorem Zo:Enters Tryz.prog 10:=enters Tryz.func10 rfl (by decide)
theorem Zp:Enters Tryz.prog 11:=enters Tryz.func11 rfl (by decide)
theorem E12:Enters Tryz.prog 12:=enters Tryz.func12 rfl (by decide)
theorem Zq:Enters Tryz.prog 13:=enters Tryz.func13 rfl (by decide)
theorem E14:Enters Tryz.prog 14:=enters Tryz.func14 rfl (by decide)
theorem E15:Enters Tryz.prog 15:=enters Tryz.func15 rfl (by decide)
theorem Zx:Enters Tryz.prog 16:=enters Tryz.func16 rfl (by decide)
theorem O9:Enters Tryz.prog 17:=enters Tryz.func17 rfl (by decide)
theorem T2:Enters Tryz.prog 18:=enters Tryz.func18 rfl (by decide)
theorem E19:Enters Tryz.prog 19:=enters Tryz.func19 rfl (by decide)
theorem E20:Enters Tryz.prog 20:=enters Tryz.func20 rfl (by decide)
theorem E21:Enters Tryz.prog 21:=enters Tryz.func21 rfl (by decide)
end TKFrees16
open TKFrees16
set_option maxRecDepth 10000
theorem Cm {l:List Dc} {v0:Value} {n0:Int} (w0:World) (hv:(RT.dc.sl).V aw w0 l v0) (hn: -9223372036854775808≤n0∧n0≤9223372036854775807):
  Spec Tryz.prog 3 #[v0,.int .i64 n0] w0 (fun v w=>v= .bool true∧Step allM w0 allM w aw):=by
 have hgl:=jK l 0 1 4;obtain⟨fY,_⟩:=AO l (show(0:Int)≤0 by decide) (show(1:Int)≤1 by decide) 4;replace hv:=hv.le (Kp.start (B:=w0.heap.size) (aZ _));refine aR (args:=[_,_]) (fn:=Tryz.f3) Tryz.func3 rfl (n:=132) Tryz.ntmps3 ?_;have S:Step allM w0 allM w0 aw:=(al _ _).bN (fun _ h=>h.elim) (fun _ _=>trivial);refine ai (ad (ah rfl rfl (ab (ai (ad ?_)))));refine aJ rfl rfl Zo (vX _) (fun r w1 hc=>?_);obtain⟨sb,mb,rfl,hs,s1⟩:=hc;replace hv:=hv.le (Kp.Bj s1);have:=S.size;replace S:=S.ax s1;refine ah rfl rfl (ab (ai (ad (ae rfl rfl ?_))));have hQ:Lt (fun b=>b=sb∨b=mb) w1:=fun b h=>(by rcases h with rfl|rfl<;>first|exact aj hs.s|exact hs.r.m.lt)
 refine aJ rfl rfl E12 (BD (most:=4) (a:=0) (s:=1) _ hQ (hv.le (Le.sub fun b h=>by have:=hs.bs;exact .inr ⟨by rcases h with rfl|rfl<;>omega,hQ b h⟩)) (by decide) (by decide) (by decide)) (fun r2 w2 hc=>?_);obtain⟨hg,s2⟩:=hc;replace hQ:=hQ.step s2;have t2:=s2;replace s2:=s2.all;replace hv:=hv.le (Kp.Bj s2);replace hs:=hs.aW s2;have:=S.size;replace S:=S.ax s2;refine aJ rfl rfl Zp (Cj _ hQ hg Cl (by omega) fY) (fun r3 w3 hc=>?_);obtain⟨sx,rfl,Lh,s3⟩:=hc;obtain⟨xa,rfl⟩:=Lh.jB;replace s3:=s3.all;clear hg hQ t2;obtain⟨B0,hB0⟩:∃B,B=w3.heap.size:=⟨_,rfl⟩;have hx:=Lh.le (by decide) (Kp.start (B:=B0) (Nat.le_of_eq hB0.symm));clear Lh;replace hv:=hv.le (Kp.Bj s3);replace hs:=hs.aW s3;have:=S.size;replace S:=S.ax s3;refine ae rfl rfl (bu rfl rfl rfl (bu rfl rfl rfl (ah rfl rfl (ah rfl rfl (ab (ai (ai (ad (ae rfl rfl (Rg.oa qR rfl rfl rfl (ae rfl rfl ?_)))))))))));refine Rg.lL (g:=27) rfl ((by simp)) (ak rfl rfl (ae rfl rfl (ak rfl rfl (Rg.oa qQ rfl rfl rfl (av rfl rfl rfl (ab (mC rfl ((by simp)) (aT (ai (ad (ae rfl rfl ?_)))))))))));refine ae rfl rfl ?_;refine aJ rfl rfl Zq (y7 _ hs (by omega)) (fun r5 w5 hc=>?_);obtain⟨hb,rfl,SG,h5,zb,s5⟩:=hc;have hB:=S.size;replace S:=S.trans s5 (fun b jz h=>by have:=hs.bs;rcases h with rfl|rfl<;>omega);replace hx:=hx.le (by decide) (Kp.le s5 fun b h=> .inl h);replace hs:St w5 w0.heap.size sb mb (.slice none 0 0) 1 [((1:Int),hb)] []:=SG;have gh:w5.heap[hb]? =some (.cells #[.int .i64 (1),.pointer (some xa)] 101 (0,0)):=h5;have zb:B0≤hb:=by omega
 have zc:w0.heap.size≤B0:=by omega
 clear SG h5;refine ah rfl rfl (ab (ai (ad (ae rfl rfl ?_))));refine aJ rfl rfl E14 (AK _ hn (by decide)) (fun r6 w6 hc=>?_);obtain⟨r6,rfl,hr6,ahk,rfl⟩:=hc;obtain⟨m,rfl⟩:∃m:Nat,r6=m:=⟨r6.toNat,by omega⟩;refine ah rfl rfl (ab (ai (ad (ah rfl rfl (ab (ai (ai (ad (ah rfl rfl (ab (a7 ?_)))))))))));refine dd (σ:=Nat×Value) (fun q=>[(1,.int .i64 (m:Int)),(5,.pointer (some ⟨sb,0,none⟩)),(6,.pointer (some xa)),(8,.int .i64 1),(9,q.2),(10,.int .i64 (q.1:Int))]) (fun q w=>∃ps:List Nat,St w w0.heap.size sb mb (.slice none 0 0) 1 [((1:Int),hb)] []∧w.heap[hb]? =some (.cells #[.int .i64 ((q.1:Int)+1),.pointer (some xa)] 101 (0,0))∧Own RT.J5 34 allM w B0 q.2 ps∧ps.length=q.1∧(∀(j p:Nat),ps[j]? =some p→w0.heap.size≤p∧∃B,dQ w sb p 1 j 1 B)∧ps.Nodup∧cf RT.se (Kp (fun b=>b=sb∨b=mb) B0 w) w (.pointer (some xa)) (KR (jt (gD l 0 1 4)))∧Step allM w0 allM w aw∧q.1≤m) (fun q=>m-q.1) (0,.slice none 0 0) (.cons rfl (.cons rfl (.cons rfl (.cons rfl (.cons rfl (.cons rfl .nil)))))) ?_ ?_
 ·exact⟨[],hs,gh,eh _ _ _ _ _,rfl,(fun j p h=>by cases h),List.nodup_nil,hx,S,bG _⟩
 ·clear hs gh hx S;rintro⟨i,ua⟩ w ⟨ps,hs,gh,ho,sr,iK,kL,hx,S,hi⟩;dsimp only at gh ho sr hi ⊢;refine ai (ai (ad (ae rfl rfl (ae rfl rfl (bY rfl rfl rfl (ab ?_))))));refine bK rfl (fun c9=>?_) (fun c9=>?_)
  ·refine aT (ai (a7 (ai (ad (ae rfl rfl (ae rfl rfl ?_))))));have hQ3:Lt (fun b=>b=sb∨b=mb∨b=hb) w:=fun b h=>(by rcases h with rfl|rfl|rfl<;>first|exact aj hs.s|exact hs.r.m.lt|exact aj gh)
   refine fa (A:=RT.int .i64) (hn:=by decide) (M:=(fun b=>b=sb∨b=mb∨b=hb)) ar I3 (by decide) rfl rfl hQ3 (gu (by decide)) (.inr ⟨rfl,rfl⟩) (fun u11 PY SS oP=>?_);replace oP:=oP.all;have:=aj gh;replace gh:=oP.aE gh;replace hs:=hs.aW oP;replace ho:=ho.lp kH oP (fun _ _ h=>h);replace iK:=HP iK oP;replace hx:=hx.le (by decide) (Kp.Bj oP);have:=S.size;replace S:=S.ax oP;refine ae rfl rfl ?_;refine aJ rfl rfl E15 (Ew (k:=1) (upto:=(i:Int)) (ls:=(keysOf (gD l 0 1 4)).map (pk (gD l 0 1 4))) _ hs kW gh (by omega) (hx.le (by decide) (Le.sub fun b h=>(by rcases h with h|h|rfl<;>first|exact .inl (.inl h)|exact .inl (.inr h)|exact .inr ⟨zb,aj gh⟩))) SS (pR _) (Ox _) (Oy _) (by show(List.map _ _).length≤_;rw[de];omega)) (fun r11 wS hc=>?_);obtain⟨p,rfl,AR,zp,T5,T6,sS⟩:=hc
   have N8:p∉ps:=fun hm=>by
    obtain⟨j,hj⟩:=bR.1 hm;obtain⟨_,_,h⟩:=iK j p hj;have:=h.lt;omega
   replace iK:∀(j p:Nat),ps[j]? =some p→w0.heap.size≤p∧∃B,dQ wS sb p 1 j 1 B:=fun j p h=>⟨(iK j p h).1,(iK j p h).2.imp fun _ h=>h.hold sS gh fun _ h=>h⟩
   have zp0:w0.heap.size≤p:=by have:=S.size;omega
   replace ho:=ho.lp kH sS (fun b jz h=>by subst h;exact ho.ef gh (by decide) jz);replace hx:=hx.le (by decide) (Kp.le sS fun b h=> .inr (by subst h;exact zb));replace S:=S.trans sS (fun b jz h=>by subst h;omega);clear hs gh SS;have hs:=T5;have gh:=T6;clear T5 T6;change wS.heap[hb]? =some (.cells #[.int .i64 ((i:Int)+1+1),.pointer (some xa)] 101 (0,0))at gh;refine ae rfl rfl (bu rfl rfl rfl (bu rfl rfl rfl (ah rfl rfl (ah rfl rfl (ab (ai (ai (ad (ae rfl rfl (Rg.oa Tryz.underlying34 rfl rfl rfl (ae rfl rfl ?_)))))))))));refine Rg.lL (g:=51) rfl ((by simp)) (ak rfl rfl (ae rfl rfl (ak rfl rfl (eg rfl rfl rfl (av rfl rfl rfl (ae rfl rfl (Rg.lL (g:=55) rfl ((by simp)) (ak rfl rfl (ae rfl rfl (ak rfl rfl (ae rfl rfl ?_)))))))))));refine ak rfl rfl ?_;refine aJ rfl rfl Zx (tb _ hs kW gh) (fun Ty EF hc=>?_);obtain⟨rfl,KP⟩:=hc;obtain rfl:wS=EF:=KP.symm;refine ak rfl rfl (ae rfl rfl (ak rfl rfl (bA rfl rfl rfl (by omega) (ak rfl rfl (eg rfl rfl rfl (av rfl rfl rfl (ab (mC rfl ((fun h=>h (by omega))) (aT (ad (ae rfl rfl ?_)))))))))));refine ae rfl rfl ?_;have SU:Lt (jo ua) wS:=fun b hb=>(ho.base b hb).2
   refine fa (A:=RT.J5) (a:=p) (hn:=by decide) (M:=(jo ua)) Tryz.underlying33 Zw (by decide) rfl rfl SU (J6.2 rfl) (.inr ⟨rfl,rfl⟩) (fun u14 MX JQ ij=>?_);replace ij:=ij.all;replace AR:=AR.aW ij;have:=aj gh;replace gh:=ij.aE gh;replace hs:=hs.aW ij;replace ho:=ho.lp kH ij (fun _ _ h=>h);replace iK:=HP iK ij;replace hx:=hx.le (by decide) (Kp.Bj ij);have:=S.size;replace S:=S.ax ij;refine cQ (M:=jo ua) (base:=B0) Tryz.underlying33 Zw rfl rfl rfl rfl (ho.Kh kH) JQ (aq _ _) (by simp;omega) (by simp;omega) (by have:=aj gh;omega) (fun uA MA wA T4 sA=>?_);replace sA:=sA.all;have kB:=fun b h=>ho.CI (b:=b) h
   have T5:St wA w0.heap.size sb mb (.slice none 0 0) 1 [((1:Int),hb)] []:=⟨sA.bB hs.s (fun h=>ho.ef hs.s (by decide) h),hs.r.step sA (fun b h=>by obtain⟨cs,h⟩:=kB b h;exact⟨cs,_,by decide,by decide,h⟩),hs.d,hs.b,hs.z,hs.k,hs.bs⟩;have T6:=sA.bB gh (fun h=>ho.ef gh (by decide) h)
   have Zy:∀(j q:Nat),(ps++[p])[j]? =some q→w0.heap.size≤q∧∃B,dQ wA sb q 1 j 1 B:=fun j q h=>by
    have hN:∀{q:Nat} {j:Int} {B:Nat},dQ MX sb q 1 j 1 B→dQ wA sb q 1 j 1 B:=fun h=>h.step sA fun b jz=>by
     obtain⟨cs,hc⟩:=kB b jz;refine⟨fun e=>?_,cs,_,by decide,hc⟩;obtain⟨_,_,h1,_⟩:=h;subst e;rw[hc]at h1;cases h1
    rw[List.getElem?_append]at h
    split at h
    ·exact⟨(iK j q h).1,(iK j q h).2.imp fun _ h=>hN h⟩
    ·obtain⟨rfl,rfl⟩:q=p∧j=ps.length:=by
      rw[List.getElem?_singleton]at h
      split at h
      ·exact⟨(bU h).symm,by omega⟩
      ·cases h
     rw[sr];exact⟨zp0,_,hN AR⟩
   have Zz:(ps++[p]).Nodup:=List.nodup_append.2 ⟨kL,by simp,fun a ha b hb e=>by simp at hb;subst hb;subst e;exact N8 ha⟩;have Ss:=hx.le (by decide) (Kp.le sA fun b h=>by have:=(ho.base b h).1;exact .inr this);replace S:=S.trans sA (fun b jz h=>by have:=(ho.base b h).1;omega);have gq:=T4.Mc kH (M':=allM) fun _ _=>trivial
   clear hs gh iK hx ho T4 JQ;refine ah rfl rfl (ab (ad (ae rfl rfl (bA rfl rfl rfl (by omega) (ah rfl rfl (ab ?_))))));refine⟨rfl,(i+1,uA),(.cons rfl (.cons rfl (.cons rfl (.cons rfl (.cons rfl (.cons rfl .nil)))))),?_,?_⟩
   ·exact⟨ps++[p],T5,by rw[show((i+1:Nat):Int)+1=(i:Int)+1+1 from by omega];exact T6,gq,by simp[sr],Zy,Zz,Ss,S,by dsimp only;omega⟩
   ·dsimp only;omega
  ·refine cB (ai (ad (ae rfl rfl (ae rfl rfl ?_))));obtain rfl:m=i:=by omega
   refine aJ rfl rfl O9 (uj _ hs kW gh (by omega)) (fun Wv MP hc=>?_);obtain⟨rfl,kg,SV,gJ⟩:=hc;have hF:=Ci.first kg SV gh ho iK;replace S:=S.trans gJ (fun b jz h=>by have:=hs.K0 kW h;omega);clear hs gh ho iK hx kg SV gJ;refine ae rfl rfl (bu rfl rfl rfl (bu rfl rfl rfl (ah rfl rfl (ah rfl rfl (ab (ai (ai (ad (ae rfl rfl (ae rfl rfl (jD rfl rfl rfl ?_)))))))))));refine Rg.bne gY rfl rfl rfl (ae rfl rfl (Rg.lL (g:=77) rfl ((by rcases Nat.eq_zero_or_pos m with h|h<;>simp<;>omega)) (ak rfl rfl (ae rfl rfl (ak rfl rfl (eg rfl rfl rfl (av rfl rfl rfl (ab (mC rfl ((by simp)) (aT (ai ?_)))))))))));refine ai (ad (ah rfl rfl (ab (a7 ?_))));refine dd (σ:=Nat) (fun j=>[(1,.int .i64 (m:Int)),(5,.pointer (some ⟨sb,0,none⟩)),(8,.int .i64 1),(9,ua),(15,.int .i64 (j:Int))]) (fun j w=>Ci w w0.heap.size B0 sb mb hb (.pointer (some xa)) ua ps m j∧j≤m∧Step allM w0 allM w aw) (fun j=>m-j) 0 (.cons rfl (.cons rfl (.cons rfl (.cons rfl (.cons rfl .nil))))) ?_ ?_
   ·exact⟨hF,bG _,S⟩
   ·clear hF S;rintro j w ⟨hF,hj,S⟩;refine ai (ai (ad (ae rfl rfl (ae rfl rfl (bY rfl rfl rfl (ab ?_))))));refine bK rfl (fun P5=>?_) (fun P5=>?_)
    ·refine aT (ai (a7 (ai (ai (ad (ae rfl rfl ?_))))));obtain⟨hs,gh,ho,iK⟩:=hF.1 (by omega);refine aJ rfl rfl T2 (oS _ hs) (fun r21 ZA hc=>?_);obtain⟨⟨a21,ahn,rfl⟩,SY⟩:=hc;replace hs:=hs.aW SY;replace gh:=SY.aE gh;replace ho:=ho.lp kH SY (fun _ _ h=>h);replace iK:∀(i p:Nat),j≤i→ps[i]? =some p→w0.heap.size≤p∧∃B,dQ ZA sb p 1 i 1 B:=fun i p hi h=>⟨(iK i p hi h).1,(iK i p hi h).2.imp fun _ h=>h.aW SY⟩
     have:=S.size;replace S:=S.ax SY;refine Rg.nc ar rfl rfl (eg rfl rfl rfl (ae rfl rfl (Rg.lL (g:=90) rfl ((by simp)) (ak rfl rfl (ae rfl rfl (ak rfl rfl (ae rfl rfl (ak rfl rfl ?_))))))));refine aJ rfl rfl Zx (tb _ hs kW gh) (fun aho ZB hc=>?_);obtain⟨rfl,ZC⟩:=hc;obtain rfl:ZA=ZB:=ZC.symm;refine ak rfl rfl (ae rfl rfl (ak rfl rfl (ae rfl rfl (ak rfl rfl (gj rfl rfl rfl (by omega) (ak rfl rfl (eg rfl rfl rfl (av rfl rfl rfl (ab (mC rfl ((by simp)) (aT ?_)))))))))));refine ai (ad (ae rfl rfl (ae rfl rfl ?_)));have hua:(RT.J5.sl).V aw ZA ps ua:=ho.sl Le.none (fun _ _ h=>h) (by omega);refine dq (M:=aw) Tryz.underlying33 Zw rfl rfl rfl hua (aq _ _) (by omega) (fun u23 p Oz S8=>?_);rw[aG]at Oz;refine bZ (M:=aw) Tryz.underlying34 rfl rfl rfl rfl rfl S8 (aq _ _) (fun v23 ZD=>?_);obtain rfl:=J6.1 ZD;obtain⟨zp,Bp,AR⟩:=iK j p (aZ _) Oz;refine aJ rfl rfl E19 (vv _ hs kW gh (by omega) AR) (fun r23 w23 hc=>?_);obtain⟨rfl,kg,Ta,Tb⟩:=hc;have hF':=Ci.next (by omega) kL Oz gh ho iK AR kg Ta
     replace S:=S.trans Tb (fun b jz h=>by
      have h2:w0.heap.size≤b:=by
       rcases h with h|h|h|h|rfl
       ·exact hs.K0 kW (.inl h)
       ·exact hs.K0 kW (.inr (.inl h))
       ·exact hs.K0 kW (.inr (.inr (.inl h)))
       ·exact hs.K0 kW (.inr (.inr (.inr h)))
       ·exact zp
      omega)
     clear hs gh ho iK kg Ta Tb AR hua S8;refine ae rfl rfl (bu rfl rfl rfl (bu rfl rfl rfl (ah rfl rfl (ah rfl rfl (ab (ai (ad (ae rfl rfl (km rfl rfl (br (v':= .bool false) rfl (ae rfl rfl ?_)))))))))));refine ak rfl rfl (ae rfl rfl (ak rfl rfl (eg rfl rfl rfl (av rfl rfl rfl (ab (mC rfl ((by simp)) (aT (ad (ae rfl rfl (bA rfl rfl rfl (by omega) (ah rfl rfl ?_)))))))))));refine ab ?_;refine⟨rfl,j+1,(.cons rfl (.cons rfl (.cons rfl (.cons rfl (.cons rfl .nil))))),?_,?_⟩
     ·exact⟨hF',by omega,S⟩
     ·omega
    ·refine cB (ai (ad (ae rfl rfl ?_)));obtain⟨uz,hs⟩:=hF.2 (by omega);refine aJ rfl rfl T2 (oS _ hs) (fun r26 w26 hc=>?_);obtain⟨⟨a26,ahr,rfl⟩,s26⟩:=hc;replace hs:=hs.aW s26;have:=S.size;replace S:=S.ax s26;refine Rg.nc ar rfl rfl (jD rfl rfl rfl (ae rfl rfl (Rg.qT (g:=117) rfl ((by simp)) (ak rfl rfl (ae rfl rfl (ak rfl rfl (ae rfl rfl (ak rfl rfl ?_))))))));refine aJ rfl rfl Zx (Bh _ hs (fun q hq=>by cases hq) (by decide)) (fun ahs ZE hc=>?_);obtain⟨rfl,ZF⟩:=hc;obtain rfl:w26=ZE:=ZF.symm;refine ak rfl rfl (jD rfl rfl rfl (aP rfl rfl rfl (ae rfl rfl (Rg.qT (g:=123) rfl ((by simp)) (ak rfl rfl (ae rfl rfl (ak rfl rfl ?_)))))));refine aJ rfl rfl E20 (DR _ hs) (fun acq acr hc=>?_);obtain⟨⟨acs,acu,rfl⟩,Tc⟩:=hc;have:=S.size;replace S:=S.ax Tc;refine ak rfl rfl (Rg.nc ar rfl rfl (ak rfl rfl (jD rfl rfl rfl (aP rfl rfl rfl (ae rfl rfl (Rg.qT (g:=129) rfl ((by simp)) (ak rfl rfl ?_)))))));refine aJ rfl rfl E21 (yq _) (fun acv acw hc=>?_);obtain⟨rfl,Td⟩:=hc;have:=S.size;replace S:=S.ax Td;refine aP rfl rfl rfl (ah rfl rfl (ab (aI ?_)));exact aO rfl rfl ⟨rfl,S⟩
theorem uq {M:aD} {l:List Dc} {v0:Value} {n0:Int} {w0:World} (hM:Lt M w0) (hv:(RT.dc.sl).V M w0 l v0) (hn: -9223372036854775808≤n0∧n0≤9223372036854775807):Spec Tryz.prog 3 #[v0,.int .i64 n0] w0 (fun v w=>v= .bool true∧Step M w0 M w aw):=
 (Cm w0 (hv.le Le.none) hn).mono fun v w ⟨h1,h2⟩=>⟨h1,h2.any M⟩
end Go.K

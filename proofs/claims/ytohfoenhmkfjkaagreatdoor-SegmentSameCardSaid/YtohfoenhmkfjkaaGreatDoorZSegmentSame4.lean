/- What the law 'SegmentSame' needs of walks and plain Lean, part 4: nothing is assumed beyond the texts that it imports. -/
import Derived.KernelRfl
import Derived.Test.YtohfoenhmkfjkaaGreatDoorProg
import Derived.Test.YtohfoenhmkfjkaaGreatDoorZSegmentSame1
import Derived.Test.YtohfoenhmkfjkaaGreatDoorZSegmentSame2
import Derived.Test.YtohfoenhmkfjkaaGreatDoorZSegmentSame3
set_option linter.unusedVariables false
set_option linter.unusedSimpArgs false
namespace Go.K
open Go.Proofs
set_option maxRecDepth 10000
theorem ra {M:aI} {w0:World} {v u:Value} {a b:List Int} (hM:Lt M w0) (hv:((RT.int .i64).sl).V M w0 a v) (hu:((RT.int .i64).sl).V M w0 b u):
  Spec Tryz.prog 51 #[v,u] w0 (fun v' w'=>v'= .bool (decide (a=b))∧Step M w0 M w' aD):=by
 have K5:=dd hv;have Ov:=dd hu;refine bh (args:=[_,_]) (fn:=Tryz.f51) Tryz.func51 rfl (n:=26) Tryz.ntmps51 (ak (aj (ah rfl rfl (ad (ak (ak (aj (ae rfl rfl (bz au rfl hv rfl (ae rfl rfl (bz au rfl hu rfl ?_)))))))))));refine dW rfl rfl rfl (ad ?_);refine bK rfl (fun c1=>?_) (fun c1=>?_)
 ·refine ak (aj (ah rfl rfl (ad (aM ?_))));refine aS rfl rfl ⟨?_,ar _ _⟩;rw[decide_eq_false];rintro rfl;exact c1 rfl
 ·obtain hlen:a.length=b.length:=by omega
  refine aU (ak (ak (aj (ah rfl rfl (ad (aW ?_))))));refine cX (σ:=Nat) (fun s=>[(0,v),(1,u),(5,.int .i64 s)]) (fun s w=>s≤a.length∧a.take s=b.take s∧Step M w0 M w aD) (fun s=>a.length-s) 0 (.cons rfl (.cons rfl (.cons rfl .nil))) ?_ ?_
  ·exact⟨bC _,by simp,ar _ _⟩
  ·rintro k w1 ⟨hk,heq,s1⟩;refine ak (ak (aj (ae rfl rfl (ae rfl rfl (bz au rfl hv rfl (cj rfl rfl rfl (ad ?_)))))));refine bK rfl (fun c4=>?_) (fun c4=>?_)
   ·refine aU (ak (aW (ak ?_)));obtain⟨x,hx⟩:∃x,a[k]? =some x:=⟨_,aF (by omega)⟩;obtain⟨y,hy⟩:∃y,b[k]? =some y:=⟨_,aF (by omega)⟩;apply T.draw (M:=M) mixed [cH.eq _,cH.eq _,cH.ptr (RT.int .i64) x,cH.eq _,cH.eq _,cH.eq _,cH.ptr (RT.int .i64) y,cH.eq _,cH.eq _]
    ·rfl
    ·refine aY ?_ ?_
     ·intro wD E sD;refine ae rfl rfl ?_;exact ad ⟨rfl,rfl,_,rfl,rfl,ar _ _⟩
     refine aY ?_ ?_
     ·intro wD E sD;refine ae rfl rfl ?_;exact ad ⟨rfl,rfl,_,rfl,rfl,ar _ _⟩
     refine aY ?_ ?_
     ·intro wD E sD;refine aZ (aZ ?_);refine cb (M:=M) au I3 rfl rfl rfl hv (by repeat (first|exact ao _ _|refine aV (br (by assumption)) ?_)) (by omega) (fun Ik Xu Q5 qh=>?_);obtain rfl:Xu=x:=aQ (Q5.symm.trans (by simpa using hx));exact ad ⟨rfl,rfl,_,rfl,qh,ar _ _⟩
     refine aY ?_ ?_
     ·intro wD E sD;intro v2 qu;refine b4 (M:=M) ay rfl rfl (by assumption) (by repeat (first|exact ao _ _|refine aV (br (by assumption)) ?_)) (fun Q6=>?_);exact ad ⟨rfl,rfl,_,rfl,rfl,ar _ _⟩
     refine aY ?_ ?_
     ·intro wD E sD;refine ae rfl rfl ?_;exact ad ⟨rfl,rfl,_,rfl,rfl,ar _ _⟩
     refine aY ?_ ?_
     ·intro wD E sD;refine ae rfl rfl ?_;exact ad ⟨rfl,rfl,_,rfl,rfl,ar _ _⟩
     refine aY ?_ ?_
     ·intro wD E sD;refine aZ (aZ ?_);refine cb (M:=M) au I3 rfl rfl rfl hu (by repeat (first|exact ao _ _|refine aV (br (by assumption)) ?_)) (by omega) (fun aeY Xv Q7 Q8=>?_);obtain rfl:Xv=y:=aQ (Q7.symm.trans (by simpa using hy));exact ad ⟨rfl,rfl,_,rfl,Q8,ar _ _⟩
     refine aY ?_ ?_
     ·intro wD E sD;intro v6 pF;refine b4 (M:=M) ay rfl rfl (by assumption) (by repeat (first|exact ao _ _|refine aV (br (by assumption)) ?_)) (fun abg=>?_);exact ad ⟨rfl,rfl,_,rfl,rfl,ar _ _⟩
     refine aY ?_ ?_
     ·intro wD E sD;refine aZ (aZ (dW rfl rfl rfl ?_));exact ad ⟨rfl,rfl,_,rfl,rfl,ar _ _⟩
     exact cy.nil
    ·intro ML lX;refine aZ (aZ ?_);intro Xw Q9;refine aZ (aZ (aZ ?_));intro aeZ abh;refine aZ (aZ ?_);refine bK rfl (fun c6=>?_) (fun c6=>?_)
     ·refine ak (aj (ah rfl rfl (ad (aM ?_))));refine aS rfl rfl ⟨?_,s1.aw lX⟩;rw[decide_eq_false];rintro rfl;rw[hx]at hy;cases hy;exact c6 rfl
     ·refine aU (aj (ae rfl rfl (bE rfl rfl rfl (by omega) (ah rfl rfl (ad ?_)))));refine⟨rfl,k+1,(.cons rfl (.cons rfl (.cons rfl .nil))),?_,?_⟩
      ·exact⟨by omega,by rw[dG (by omega),dG (by omega),heq];obtain⟨_,h1⟩:=av.1 hx;obtain⟨_,h2⟩:=av.1 hy;rw[h1,h2,b5.1 c6],s1.aw lX⟩
      ·show a.length-(k+1)<a.length-k;omega
   ·refine cK (ak (aj (ah rfl rfl (ad (aM ?_)))));refine aS rfl rfl ⟨?_,s1⟩;rw[decide_eq_true]
    rwa [aK (by omega),aK (by omega)]at heq
end Go.K
namespace Go.K
open Go.Proofs
set_option maxRecDepth 10000
theorem IX {M:aI} {w0:World} {v:Value} {x:Li} (hv:cf RT.li M w0 v x) {k:Int}:
  Spec Tryz.prog 214 #[v,.int .i64 k] w0 (fun v' w'=>v'= .bool (Oc x.2.1.length k)∧w0=w'):=by
 refine bh (args:=[_,_]) (fn:=Tryz.f214) Tryz.func214 rfl (n:=16) Tryz.ntmps214 (ak (aj (ah rfl rfl (ad (ak (aj (ae rfl rfl (dN rfl rfl rfl (ae rfl rfl ?_)))))))));refine aL (g:=7) rfl (fun fX=>?_) (fun fX=>?_)
 ·refine an rfl rfl (ae rfl rfl (an rfl rfl (ae rfl rfl (an rfl rfl (bZ rfl (cf.fL (by assumption)) rfl (an rfl rfl ?_))))));refine ax (M:=M) (A:=RT.li) (B:=(RT.bl).sl) dA rfl rfl AS (by decide) (Tk) rfl rfl (by decide) (by assumption) (by repeat (first|exact ao _ _|refine aV (br (by assumption)) ?_)) (fun ae0 abi=>?_);refine an rfl rfl ?_;refine bw (M:=M) dJ rfl rfl rfl rfl rfl (by assumption) (by repeat (first|exact ao _ _|refine aV (br (by assumption)) ?_)) (fun Ra Kb=>?_);refine an rfl rfl ?_
  first|refine bz dJ rfl (by assumption) rfl ?_|refine ie dJ rfl (by assumption) rfl ?_
  refine an rfl rfl (cj rfl rfl rfl (aP rfl rfl rfl (ah rfl rfl (ad (aM ?_)))))
  first
  |exact aS rfl rfl ⟨congrArg Value.bool (decide_eq_decide.2 (by omega)),rfl⟩
  |exact aS rfl rfl ⟨congrArg Value.bool (ei (decide_eq_false (by omega))),rfl⟩
 ·refine aq rfl rfl rfl rfl (aq rfl rfl rfl rfl (aq rfl rfl rfl rfl (aq rfl rfl rfl rfl (aq rfl rfl rfl rfl (aq rfl rfl rfl rfl (aq rfl rfl rfl rfl (aE rfl rfl rfl (ah rfl rfl (ad (aM ?_))))))))))
  first
  |exact aS rfl rfl ⟨congrArg Value.bool (decide_eq_decide.2 (by omega)),rfl⟩
  |exact aS rfl rfl ⟨congrArg Value.bool (ei (decide_eq_false (by omega))),rfl⟩
theorem Gw {M:aI} {w0:World} {v:Value} {x:Li} (hv:cf RT.li M w0 v x) (hM:Lt M w0) (hm:∀b∈x.2.1,0≤b.2.2.2∧b.2.2.2≤8):
  Spec Tryz.prog 75 #[v] w0 (fun v' w'=>v'= .int .i64 (ph x.2.1)∧Step M w0 M w' aD):=by
 refine bh (args:=[_]) (fn:=Tryz.f75) Tryz.func75 rfl (n:=21) Tryz.ntmps75 (ak (aj (ah rfl rfl (ad (ak (aj (ah rfl rfl (ad (ak (ak (aj ?_)))))))))));refine ae rfl rfl (bZ rfl (cf.fL (by assumption)) rfl ?_);refine ax (M:=M) (A:=RT.li) (B:=(RT.bl).sl) dA rfl rfl AS (by decide) (Tk) rfl rfl (by decide) (by assumption) (by repeat (first|exact ao _ _|refine aV (br (by assumption)) ?_)) (fun MM jd=>?_);refine bw (M:=M) dJ rfl rfl rfl rfl rfl (by assumption) (ao _ _) (fun vb HC=>?_);have AA:=dd HC
 first|refine bz dJ rfl (by assumption) rfl ?_|refine ie dJ rfl (by assumption) rfl ?_
 refine ae rfl rfl (ad (aW ?_));refine cX (σ:=Nat) (fun s=>[(3,.int .i64 (ph (x.2.1.take s))),(9,vb),(10,.int .i64 x.2.1.length),(11,.int .i64 s)]) (fun s w=>s≤x.2.1.length∧Step M w0 M w aD) (fun s=>x.2.1.length-s) 0 (.cons rfl (.cons rfl (.cons rfl (.cons rfl .nil)))) ?_ ?_
 ·exact⟨bC _,ar _ _⟩
 ·rintro k w1 ⟨hk,S⟩;have Xx:=S.lt hM;refine ak (aj (cj rfl rfl rfl (ad (ak ?_))));refine bK rfl (fun c3=>?_) (fun c3=>?_)
  ·refine aU (ak (aW (ak (aj ?_))));obtain⟨b,hb⟩:∃b,x.2.1[k]? =some b:=⟨_,aF (by omega)⟩;have hbm:=hm b (aH hb);have ou:=H3 (x.2.1.take k) fun c hc=>hm c (lg hc)
   rw[bF,Nat.min_eq_left hk]at ou;refine cb (M:=M) dJ rW rfl rfl rfl (HC.le S.le) (ao _ _) (by omega) (fun Io MN Gx zc=>?_);obtain rfl:MN=b:=aQ (Gx.symm.trans (by simpa using hb));refine b7 (M:=M) (A:=RT.bl) iy rfl rW (by decide) rfl rfl rfl (by assumption) (by repeat (first|exact ao _ _|refine aV (br (by assumption)) ?_)) (fun Ip Ce=>?_);refine sm (A:=RT.bl) (M:=M) rW rfl rfl rfl rfl rfl (by assumption) (by repeat (first|exact ao _ _|refine aV (br (by assumption)) ?_)) (by first|assumption|exact Step.lt (by assumption) (by assumption)|exact Step.lt (by assumption) (Step.lt (by assumption) (by assumption))) (fun Lb Lc k3 ox QP=>?_);refine ad (aj (ae rfl rfl ?_));refine ax (M:=M) (A:=RT.bl) (B:=RT.int .i64) iy rfl rfl I3 (by decide) (bl3) rfl rfl (by decide) (by assumption) (by repeat (first|exact ao _ _|refine aV (br (by assumption)) ?_)) (fun P3 Fe=>?_);refine b4 (M:=M) ay rfl rfl (by assumption) (by repeat (first|exact ao _ _|refine aV (br (by assumption)) ?_)) (fun Ka=>?_);refine bE rfl rfl rfl (by omega) (ah rfl rfl (ad (aj (bE rfl rfl rfl (by omega) (ae rfl rfl (ad ?_))))));refine⟨rfl,k+1,(.cons (by rw[C1 hb];rfl) (.cons rfl (.cons rfl (.cons rfl .nil)))),?_,?_⟩
   ·exact⟨by omega,S.aw ox⟩
   ·show _-(k+1)<_-k;omega
  ·refine cK (ak (aj (ae rfl rfl (ah rfl rfl (ad (aM ?_))))));refine aS rfl rfl ⟨?_,S⟩;rw[aK (by omega)]
theorem By {M:aI} {w0:World} {v:Value} {b:List UInt8} {at_ ahead:Int} (hM:Lt M w0) (hv:(RT.u8.sl).V M w0 b v) (Ot: -9223372036854775808≤at_∧at_≤9223372036854775807) (hah: -9223372036854775808≤ahead∧ahead≤9223372036854775807) (AA:b.length≤1099511627776):
  Spec Tryz.prog 215 #[v,.int .i64 at_,.int .i64 ahead] w0 (fun v' w'=>∃p,v'= .tuple #[p,.int .i64 (oK b at_ ahead).2.1,.int .i64 (oK b at_ ahead).2.2]∧RT.po.V M w' (oK b at_ ahead).1 p∧Step M w0 M w' aD):=by
 refine bh (args:=[_,_,_]) (fn:=Tryz.f215) Tryz.func215 rfl (n:=38) Tryz.ntmps215 (ak (aj ?_));refine dL M eN rfl (fun b0 w1 Vl ae1 hB s1=>?_);have xd:=s1.lt hM;have pE:=hv.le s1.le;refine ah rfl rfl (ah rfl rfl (ad (ak (aj (ae rfl rfl (ae rfl rfl ?_))))));refine aT rfl rfl Pq (zV pE Ot) (fun r w2 h2=>?_);obtain⟨rfl,rfl⟩:=h2;have sU:=wG b at_;obtain⟨Xt,hn1,hn2,hn3⟩:=l8 b at_;refine ae rfl rfl (bR rfl rfl rfl (bR rfl rfl rfl (bR rfl rfl rfl (ah rfl rfl (ah rfl rfl (ah rfl rfl (ad (ak (ak (aj (ae rfl rfl ?_)))))))))));refine dW rfl rfl rfl (ad ?_);refine bK rfl (fun c2=>?_) (fun c2=>?_)
 ·refine ak (aj (eM (places:=[(0,1),(1,1)]) bm eN EH rfl rfl (out:=[.int .i64 0,.slice none 0 0]) rfl (ae rfl rfl ?_)));refine dx (M:=ins M b0) eN rfl rfl (by intro u hu;simp at hu;rcases hu with rfl|rfl<;>rfl) rfl rfl hB (.inl rfl) (fun w3 hB3 s3=>?_);refine ah rfl rfl (ah rfl rfl (ad (aM ?_)));have gS:=s1.size;have S:Step M w0 M w3 aD:=(s1.cR s3 (fun k hk=>by subst hk;omega)).back;refine Ey rfl rfl bm rfl eN rfl hB3 rfl rfl ⟨_,by unfold oK;rw[if_pos c2]<;>rfl,?_,S⟩;unfold oK;rw[if_pos c2];exact dR (fO (x:=0) (by omega)) j5 rfl rfl rfl rfl
 ·refine aU (ak (aj (ae rfl rfl (ae rfl rfl ?_))));have hok:=qJ (b:=b) (at_:=at_) (by omega);refine aT rfl rfl Ve (uu (M:=ins M b0) xd pE (by omega) AA) (fun r w3 h3=>?_);obtain⟨x3,rfl,MO,s3⟩:=h3;refine ae rfl rfl (bR rfl rfl rfl (bR rfl rfl rfl (bR rfl rfl rfl (ah rfl rfl (ah rfl rfl (ah rfl rfl (ad (ak (aj (ae rfl rfl (Rg.yD rfl rfl rfl ?_)))))))))));refine ae rfl rfl (Rg.yD rfl rfl rfl (ae rfl rfl (eM (places:=[(0,1),(1,1)]) bm eN EH rfl ⟨_,_,rfl,rfl,_,_,rfl,rfl,rfl⟩ (out:=[_,_]) ⟨0,[_],rfl,rfl,by simp[Value.cells],1,[_],rfl,gw MO,by simp[Value.cells],rfl⟩ (ae rfl rfl (ae rfl rfl ?_)))));obtain⟨vx,rZ⟩:∃vx,vx=x3:=⟨_,rfl⟩;have qC:=iZ MO rfl rfl;refine dx (M:=ins M b0) eN rfl rfl (by intro u hu;simp at hu;rcases hu with rfl|rfl;rfl;exact qC) rfl rfl (s3.aN hB) (.inl rfl) (fun w4 TD s4=>?_);refine ah rfl rfl (ah rfl rfl (ad (aM ?_)));have gS:=s1.size;have ae3:=s3.size;have S3:=s1.aw s3;have S:Step M w0 M w4 aD:=(S3.cR s4 (fun k hk=>by subst hk;omega)).back;refine Ey rfl rfl bm rfl eN rfl TD rfl rfl ⟨_,by unfold oK;rw[if_neg c2]<;>rfl,?_,S⟩;unfold oK;rw[if_neg c2];have hx4:=(MO.le s4.le).le (Le.close hM (S3.cR s4 (fun k hk=>by subst hk;omega)));exact dR (fO EA) hx4 rfl rfl rfl rfl
theorem Bz {M:aI} {w0:World} {v:Value} {l:List Po} {k:Int} (hM:Lt M w0) (hv:cf RT.li M w0 v (kP l)) (lT:eR (-1) l=true) (so:∀p∈l,p.2.length≤1099511627776) (AA:(dy (-1) l).length≤1099511627776):
  Spec Tryz.prog 180 #[v,.int .i64 k] w0 (fun v' w'=>Step M w0 M w' aD∧((RT.po).sl).V M w' (if Oc ((l.length+7)/8) k then(l.drop (8*k.toNat)).take 8 else[]) v'):=by
 have Rb:(kP l).2.1.length=(l.length+7)/8:=by simp[kP,ll]
 refine bh (args:=[_,_]) (fn:=Tryz.f180) Tryz.func180 rfl (n:=51) Tryz.ntmps180 (ak (aj (ah rfl rfl (ad (ak (ak (aj (ae rfl rfl (ae rfl rfl ?_)))))))));refine aT rfl rfl U5 (IX hv (k:=k)) (fun r w1 h1=>?_);obtain⟨rfl,rfl⟩:=h1;refine jx rfl rfl (bI (v':= .bool (decide (¬(0≤k∧k<(kP l).2.1.length)))) (by unfold Oc;rw[decide_not]) (ad ?_));refine bK rfl (fun c1=>?_) (fun c1=>?_)
 ·refine ak (aj (ah rfl rfl (ad (aM ?_))));refine aS rfl rfl ⟨ar _ _,?_⟩;rw[if_neg (by unfold Oc;rw[Rb]at c1;simpa using c1)];exact j5
 ·refine aU (ak (aj (ae rfl rfl (bZ rfl (cf.fL (by assumption)) rfl ?_))));refine ax (M:=M) (A:=RT.li) (B:=(RT.bl).sl) dA rfl rfl AS (by decide) (Tk) rfl rfl (by decide) (by assumption) (by repeat (first|exact ao _ _|refine aV (br (by assumption)) ?_)) (fun L0 wV=>?_);refine bw (M:=M) dJ rfl rfl rfl rfl rfl (by assumption) (by repeat (first|exact ao _ _|refine aV (br (by assumption)) ?_)) (fun Xy Rc=>?_);refine ae rfl rfl ?_;obtain⟨j,rfl⟩:∃j:Nat,k=j:=⟨k.toNat,by omega⟩;have hb:(kP l).2.1[j]? =some (oJ l j):=by simp only[kP,ll,o2];rw[List.getElem?_range (by omega)];rfl
  refine cb (M:=M) dJ rW rfl rfl rfl (by assumption) (ao _ _) (by omega) (fun ae5 Xz Re abj=>?_);obtain rfl:Xz=oJ l j:=aQ (Re.symm.trans (by simpa using hb));have J1:(oJ l j).2.2.2=(((l.drop (8*j)).take 8).length:Int):=rfl;have abk:((l.drop (8*j)).take 8).length≤8:=by rw[bF];omega
  refine b7 (M:=M) (A:=RT.bl) iy rfl rW (by decide) rfl rfl rfl (by assumption) (by repeat (first|exact ao _ _|refine aV (br (by assumption)) ?_)) (fun ae6 abl=>?_);refine sm (A:=RT.bl) (M:=M) rW rfl rfl rfl rfl rfl (by assumption) (by repeat (first|exact ao _ _|refine aV (br (by assumption)) ?_)) (by first|assumption|exact Step.lt (by assumption) (by assumption)|exact Step.lt (by assumption) (Step.lt (by assumption) (by assumption))) (fun XA MR abm MS ae7=>?_);refine ad (ak (aj (ah rfl rfl (ad (ak (ak ?_))))));apply T.draw (M:=M) mixed [cH.ptr (RT.int .i64) (oJ l j).1,cH.eq _,cH.ptr (RT.int .i64) (oJ l j).2.1,cH.eq _,cH.eq _,cH.eq _]
  ·rfl
  ·refine aY ?_ ?_
   ·intro wD E sD;refine ax (M:=M) (A:=RT.bl) (B:=RT.int .i64) iy rfl rfl I3 (by decide) (bl0) rfl rfl (by decide) (by assumption) (by repeat (first|exact ao _ _|refine aV (br (by assumption)) ?_)) (fun QV Ct=>?_);exact ad ⟨rfl,rfl,_,rfl,by assumption,ar _ _⟩
   refine aY ?_ ?_
   ·intro wD E sD;intro v0 Jv;refine b4 (M:=M) ay rfl rfl (by assumption) (by repeat (first|exact ao _ _|refine aV (br (by assumption)) ?_)) (fun Kc=>?_);exact ad ⟨rfl,rfl,_,rfl,rfl,ar _ _⟩
   refine aY ?_ ?_
   ·intro wD E sD;refine ax (M:=M) (A:=RT.bl) (B:=RT.int .i64) iy rfl rfl I3 (by decide) (bl1) rfl rfl (by decide) (by assumption) (by repeat (first|exact ao _ _|refine aV (br (by assumption)) ?_)) (fun XB rK=>?_);exact ad ⟨rfl,rfl,_,rfl,by assumption,ar _ _⟩
   refine aY ?_ ?_
   ·intro wD E sD;intro v2 qu;refine b4 (M:=M) ay rfl rfl (by assumption) (by repeat (first|exact ao _ _|refine aV (br (by assumption)) ?_)) (fun abn=>?_);exact ad ⟨rfl,rfl,_,rfl,rfl,ar _ _⟩
   refine aY ?_ ?_
   ·intro wD E sD;refine aZ ?_;intro v0 Jv;refine aZ (ah rfl rfl ?_);exact ad ⟨rfl,rfl,_,rfl,rfl,ar _ _⟩
   refine aY ?_ ?_
   ·intro wD E sD;refine aZ (aZ ?_);intro v0 Jv;refine aZ ?_;intro v2 qu;refine aZ (aZ (ah rfl rfl ?_));exact ad ⟨rfl,rfl,_,rfl,rfl,ar _ _⟩
   exact cy.nil
  ·intro Oq qY;intro ae8 abo;refine aZ ?_;intro V0 JM;refine aZ (aZ (aZ (aW ?_)));have hz5:=MS.size;refine cX (σ:=Nat×Value) (fun s=>[(0,v),(5,XA),(6,s.2),(7,.int .i64 (dy (-1) (l.take (8*j+s.1))).length),(8,.int .i64 (cO (-1) (l.take (8*j+s.1))))]) (fun s w=>s.1≤((l.drop (8*j)).take 8).length∧∃M1,Lt M1 w∧Step M w0 M1 w aD∧Step M MR M1 w aD∧Own RT.po 153 M1 w MR.heap.size s.2 (((l.drop (8*j)).take 8).take s.1)) (fun s=>((l.drop (8*j)).take 8).length-s.1) (0,_) (.cons rfl (.cons rfl (.cons rfl (.cons rfl (.cons rfl .nil))))) ?_ ?_
   ·exact⟨bC _,M,qY.lt (MS.lt hM),MS.aw qY,qY,dw _ _ _ _ _⟩
   ·rintro⟨i,u0⟩ w1 ⟨hi,M1,xd,S,S5,ho⟩;dsimp only at hi ho ⊢;refine ak (ak (aj (ae rfl rfl (ie aR rfl ho rfl (bI (v':= .int .i64 i) (by rw[bF,Nat.min_eq_left hi]) ?_)))));refine ax (M:=M1) (A:=RT.bl) (B:=RT.int .i64) iy rfl rfl I3 (by decide) (bl3) rfl rfl (by decide) (by assumption) (by repeat (first|exact ao _ _|refine aV (br (by assumption)) ?_)) (fun Ik qh=>?_);refine b4 (M:=M1) ay rfl rfl qh (ao _ _) (fun Q6=>?_);refine bI (v':= .int .i64 ((l.drop (8*j)).take 8).length) rfl (cj rfl rfl rfl (ad ?_));refine bK rfl (fun c6=>?_) (fun c6=>?_)
    ·refine aU (aW (ak (aj (ae rfl rfl (bZ rfl (cf.fL (by assumption)) rfl ?_)))));refine ax (M:=M1) (A:=RT.li) (B:=RT.u8.sl) dA rfl rfl yV (by decide) (li0) rfl rfl (by decide) (by assumption) (by repeat (first|exact ao _ _|refine aV (br (by assumption)) ?_)) (fun QF oR=>?_);refine bw (M:=M1) bD rfl rfl rfl rfl rfl (by assumption) (by repeat (first|exact ao _ _|refine aV (br (by assumption)) ?_)) (fun Rf Gy=>?_);refine ae rfl rfl (ae rfl rfl ?_);obtain⟨⟨d,ps⟩,hx⟩:∃x,l[8*j+i]? =some x:=⟨_,aF (by rw[bF,cP]at c6;omega)⟩;obtain⟨f1,f2,f3,f4,f5,f6⟩:=xI lT hx;have P2:oK (kP l).1 _ _=_:=EC lT hx (so _ (aH hx));have CN:(dy (-1) (l.take (8*j+i))).length≤(dy (-1) l).length:=by rw[nw (l:=l) (i:=8*j+i) (-1)];simp
     refine aT rfl rfl U6 (By (M:=M1) xd Gy (by omega) (by omega) AA) (fun r7 w7 h7=>?_);obtain⟨p7,h7e,Ow,s7⟩:=h7;rw[P2]at h7e Ow;subst h7e;change RT.po.V M1 w7 (d,ps) p7 at Ow;replace S:=S.aw s7;replace S5:=S5.aw s7;replace ho:=ho.a7 s7;replace xd:=s7.lt xd;have hci:((l.drop (8*j)).take 8)[i]? =some (d,ps):=by rw[eo,if_pos (by omega),List.getElem?_drop];exact hx
     refine ae rfl rfl (bR rfl rfl rfl (bR rfl rfl rfl (bR rfl rfl rfl ?_)));refine sm (A:=RT.po) (M:=M1) eN rfl rfl rfl rfl rfl (by assumption) (by repeat (first|exact ao _ _|refine aV (br (by assumption)) ?_)) (by first|assumption|exact Step.lt (by assumption) (by assumption)|exact Step.lt (by assumption) (Step.lt (by assumption) (by assumption))) (fun abr abt Gz Cu abu=>?_);refine ah rfl rfl (ah rfl rfl (ad (ak (aj (ae rfl rfl ?_)))));replace S:=S.aw Cu;replace S5:=S5.aw Cu;replace ho:=ho.a7 Cu;replace xd:=Cu.lt xd;clear Ow;refine b7 (M:=M1) (A:=RT.po) bm rfl eN (by decide) rfl rfl rfl Gz (ao _ _) (fun v8 vQ=>?_);refine dQ (A:=RT.po) (hn:=by decide) (M:=M1) aR eN (by decide) rfl rfl xd vQ (.inl rfl) (fun u2 w2 jB s2=>?_);refine ch (M:=M1) (base:=MR.heap.size) aR eN rfl rfl rfl rfl (ho.a7 s2) jB (ao _ _) (by simp;omega) (by simp;omega) (eJ S5.size s2.size) (fun v3 M3 w3 DD s3=>?_);replace S:=(S.aw s2).cF s3 (ho.a7 s2) hz5;have Wh:=(Gz.le (by decide) s2.le).le (by decide) s3.le;have hM3:=s3.lt (s2.lt xd);replace S5:=(S5.aw s2).cF s3 (ho.a7 s2) (a8 _);refine ah rfl rfl (ad ?_);apply T.draw (M:=M3) mixed [cH.eq _,cH.ptr (RT.int .i64) d,cH.eq _,cH.eq _,cH.eq _]
     ·rfl
     ·refine aY ?_ ?_
      ·intro wD E sD;refine ae rfl rfl ?_;exact ad ⟨rfl,rfl,_,rfl,rfl,ar _ _⟩
      refine aY ?_ ?_
      ·intro wD E sD;refine ax (M:=M3) (A:=RT.po) (B:=RT.int .i64) bm rfl rfl I3 (by decide) (B6) rfl rfl (by decide) Wh sD.le (fun WT Gc=>?_);exact ad ⟨rfl,rfl,_,rfl,Gc,ar _ _⟩
      refine aY ?_ ?_
      ·intro wD E sD;intro v1 pE;refine b4 (M:=M3) ay rfl rfl (by assumption) (by repeat (first|exact ao _ _|refine aV (br (by assumption)) ?_)) (fun abv=>?_);exact ad ⟨rfl,rfl,_,rfl,rfl,ar _ _⟩
      refine aY ?_ ?_
      ·intro wD E sD;refine aZ (aZ (ah rfl rfl ?_));exact ad ⟨rfl,rfl,_,rfl,rfl,ar _ _⟩
      refine aY ?_ ?_
      ·intro wD E sD;refine aZ (aZ (aZ ?_));intro v1 pE;refine aZ (aZ (ah rfl rfl ?_));exact ad ⟨rfl,rfl,_,rfl,rfl,ar _ _⟩
      exact cy.nil
     ·intro Kd yf;refine aZ ?_;intro afb abw;refine aZ (aZ (aZ ?_));refine⟨rfl,(i+1,v3),(.cons rfl (.cons rfl (.cons rfl (.cons rfl (.cons (by rw[←f5];rfl) .nil))))),?_,?_⟩
      ·refine⟨by simp only;omega,M3,yf.lt hM3,S.aw yf,S5.aw yf,?_⟩;simp only;obtain⟨rX,pW⟩:=av.1 hci;rw[dG rX,pW];exact DD.a7 yf
      ·simp only;omega
    ·refine cK (ak (aj (ae rfl rfl (ah rfl rfl (ad (aM ?_))))));refine aS rfl rfl ⟨S.back,?_⟩;rw[if_pos (by unfold Oc;rw[Rb]at c1;simpa using c1),aB];rw[aK (by omega)]at ho;exact ig hM S (ho.lj hz5) (by omega)
end Go.K
namespace Go.K
open Go.Proofs
set_option maxRecDepth 10000
theorem zX {M:aI} {w0:World} {v:Value} {l:List Int} (hv:((RT.int .i64).sl).V M w0 l v):
  Spec Tryz.prog 212 #[v] w0 (fun v' w'=>v'= .bool (l9 l)∧w0=w'):=by
 have hlen:=dd hv;refine bh (args:=[_]) (fn:=Tryz.f212) Tryz.func212 rfl (n:=32) Tryz.ntmps212 (ak (aj (ah rfl rfl (ad (ak (ak (aj (ae rfl rfl ?_))))))))
 first|refine bz au rfl (by assumption) rfl ?_|refine ie au rfl (by assumption) rfl ?_
 refine ae rfl rfl (ad (aW ?_));refine cX (σ:=Nat×Int) (fun s=>[(0,v),(5,v),(6,.int .i64 l.length),(7,.int .i64 s.1)]) (fun s w=>w0=w∧s.1≤l.length∧l9 l=(eG s.2 (l.drop s.1)&&(l.drop s.1).all (fun n=>decide (n<2147483648)))∧ -1≤s.2∧(s.1=0→s.2= -1)∧(0<s.1→l[s.1-1]? =some s.2)) (fun s=>l.length-s.1) (0,-1) (.cons rfl (.cons rfl (.cons rfl (.cons rfl .nil)))) ?_ ?_
 ·exact⟨rfl,bC _,rfl,by decide,fun _=>rfl,fun h=>absurd h (mW 0)⟩
 ·rintro⟨k,last⟩ w1 ⟨rfl,hk,hr,QT,h0,h1⟩;dsimp only at hk hr QT h0 h1 ⊢;refine ak (aj (cj rfl rfl rfl (ad (ak ?_))));refine bK rfl (fun c2=>?_) (fun c2=>?_)
  ·refine aU (ak (aW (ak (aj (ae rfl rfl ?_)))));obtain⟨x,hx⟩:∃x,l[k]? =some x:=⟨_,aF (by omega)⟩;refine cb (M:=M) au I3 rfl rfl rfl hv (ao _ _) (by omega) (fun afc XC Rh abx=>?_);obtain rfl:x=XC:=ei (aQ (Rh.symm.trans (by simpa using hx)));refine b4 (M:=M) ay rfl rfl (by assumption) (by repeat (first|exact ao _ _|refine aV (br (by assumption)) ?_)) (fun aby=>?_);refine ah rfl rfl (ah rfl rfl (ad (ak (aj (ae rfl rfl (cj rfl rfl rfl (ae rfl rfl ?_)))))));refine aL (g:=14) rfl (fun oA=>?_) (fun oA=>?_)
   ·refine aq rfl rfl rfl rfl (aq rfl rfl rfl rfl (aP rfl rfl rfl (ae rfl rfl (aq rfl rfl rfl rfl (aq rfl rfl rfl rfl (aq rfl rfl rfl rfl (ck rfl rfl rfl (ck rfl rfl rfl (ck rfl rfl rfl (ck rfl rfl rfl (ck rfl rfl rfl ?_)))))))))));refine ck rfl rfl rfl (ck rfl rfl rfl (aq rfl rfl rfl rfl (aP rfl rfl rfl (ad (jH rfl (ak (aj (ah rfl rfl (ad (aM ?_))))))))));refine aS rfl rfl ⟨congrArg Value.bool (ei ?_),rfl⟩;rw[hr,fa hx,ny _ hx];by_cases h7:last<x
    ·have h2: ¬x<2147483648:=by omega
     simp[h2]
    ·simp[h7]
   ·refine an rfl rfl (ae rfl rfl (an rfl rfl (dN rfl rfl rfl (aE rfl rfl rfl (ae rfl rfl ?_)))));refine aL (g:=18) rfl (fun zY=>?_) (fun zY=>?_)
    ·refine aq rfl rfl rfl rfl (aq rfl rfl rfl rfl (aq rfl rfl rfl rfl (ck rfl rfl rfl (ck rfl rfl rfl (ck rfl rfl rfl (ck rfl rfl rfl (ck rfl rfl rfl (ck rfl rfl rfl (ck rfl rfl rfl (aq rfl rfl rfl rfl (aP rfl rfl rfl ?_)))))))))));refine ad (jH rfl (ak (aj (ah rfl rfl (ad (aM ?_))))));refine aS rfl rfl ⟨congrArg Value.bool (ei ?_),rfl⟩;rw[hr,fa hx,ny _ hx];by_cases h7:last<x
     ·have h2: ¬x<2147483648:=by omega
      simp[h2]
     ·simp[h7]
    ·refine an rfl rfl (ae rfl rfl (an rfl rfl (lF rfl rfl rfl (an rfl rfl (ae rfl rfl ?_)))));refine aL (g:=21) rfl (fun XD=>?_) (fun XD=>?_)
     ·refine an rfl rfl (ae rfl rfl (an rfl rfl (ae rfl rfl (an rfl rfl (ae rfl rfl (an rfl rfl (ic rfl rfl rfl (by omega) (an rfl rfl ?_))))))));refine cb (M:=M) au I3 rfl rfl rfl hv (ao _ _) (by omega) (fun abz Ri MT XE=>?_);obtain rfl:last=Ri:=ei (aQ (MT.symm.trans (by rw[show((k:Int)-1).toNat=k-1 from by omega];exact h1 (by omega))));refine an rfl rfl ?_;refine b4 (M:=M) ay rfl rfl (by assumption) (by repeat (first|exact ao _ _|refine aV (br (by assumption)) ?_)) (fun XF=>?_);refine an rfl rfl (fh rfl rfl rfl (an rfl rfl (aP rfl rfl rfl (aE rfl rfl rfl (ad ?_)))));refine bK rfl (fun c4=>?_) (fun c4=>?_)
      ·refine ak (aj (ah rfl rfl (ad (aM ?_))));refine aS rfl rfl ⟨congrArg Value.bool (ei ?_),rfl⟩;rw[hr,fa hx,ny _ hx];by_cases h7:last<x
       ·have h2: ¬x<2147483648:=by omega
        simp[h2]
       ·simp[h7]
      ·refine aU (aj (bE rfl rfl rfl (by omega) (ae rfl rfl (ad ?_))));refine⟨rfl,(k+1,x),(.cons rfl (.cons rfl (.cons rfl (.cons rfl .nil)))),?_,?_⟩
       ·refine⟨rfl,by simp only;omega,?_,by simp only;omega,fun h=>by simp at h,fun _=>by simpa using hx⟩;rw[hr,fa hx,ny _ hx,decide_eq_true (show last<x by omega),decide_eq_true (show x<2147483648 by omega),fm,fm]
       ·simp only;omega
     ·refine aq rfl rfl rfl rfl (aq rfl rfl rfl rfl (aq rfl rfl rfl rfl (aq rfl rfl rfl rfl (aq rfl rfl rfl rfl (aq rfl rfl rfl rfl (aq rfl rfl rfl rfl (an rfl rfl (aE rfl rfl rfl (aE rfl rfl rfl (ad (iV rfl ?_)))))))))));refine aU (aj (bE rfl rfl rfl (by omega) (ae rfl rfl (ad ?_))));refine⟨rfl,(k+1,x),(.cons rfl (.cons rfl (.cons rfl (.cons rfl .nil)))),?_,?_⟩
      ·refine⟨rfl,by simp only;omega,?_,by simp only;omega,fun h=>by simp at h,fun _=>by simpa using hx⟩;rw[hr,fa hx,ny _ hx,decide_eq_true (show last<x by omega),decide_eq_true (show x<2147483648 by omega),fm,fm]
      ·simp only;omega
  ·refine cK (ak (aj (ah rfl rfl (ad (aM ?_)))));refine aS rfl rfl ⟨congrArg Value.bool (ei ?_),rfl⟩;rw[hr,fz (by omega)];rfl
theorem DE {M:aI} {w0:World} {v:Value} {l:List Po} (hM:Lt M w0) (hv:((RT.po).sl).V M w0 l v):
  Spec Tryz.prog 171 #[v] w0 (fun v' w'=>v'= .bool (eR (-1) l)∧Step M w0 M w' aD):=by
 have hlen:=dd hv;refine bh (args:=[_]) (fn:=Tryz.f171) Tryz.func171 rfl (n:=36) Tryz.ntmps171 (ak (aj (ah rfl rfl (ad (ak (aj (ah rfl rfl (ad (ak (ak (aj ?_)))))))))));refine ae rfl rfl ?_
 first|refine bz aR rfl (by assumption) rfl ?_|refine ie aR rfl (by assumption) rfl ?_
 refine ae rfl rfl (ad (aW ?_));refine cX (σ:=Nat×Int) (fun s=>[(6,v),(7,.int .i64 l.length),(8,.int .i64 s.1),(3,.int .i64 s.2)]) (fun s w=>Step M w0 M w aD∧s.1≤l.length∧eR (-1) l=eR s.2 (l.drop s.1)) (fun s=>l.length-s.1) (0,-1) (.cons rfl (.cons rfl (.cons rfl (.cons rfl .nil)))) ?_ ?_
 ·exact⟨ar _ _,bC _,rfl⟩
 ·rintro⟨k,last⟩ w1 ⟨S,hk,hr⟩;dsimp only at hk hr ⊢;have Xx:=S.lt hM;refine ak (aj (cj rfl rfl rfl (ad (ak ?_))));refine bK rfl (fun c3=>?_) (fun c3=>?_)
  ·refine aU (ak (aW (ak (aj ?_))));obtain⟨⟨d,ps⟩,hx⟩:∃x,l[k]? =some x:=⟨_,aF (by omega)⟩;refine cb (M:=M) aR eN rfl rfl rfl (hv.le S.le) (ao _ _) (by omega) (fun Io MN Gx zc=>?_);obtain rfl:MN=(d,ps):=aQ (Gx.symm.trans (by simpa using hx));refine b7 (M:=M) (A:=RT.po) bm rfl eN (by decide) rfl rfl rfl (by assumption) (by repeat (first|exact ao _ _|refine aV (br (by assumption)) ?_)) (fun Ip Ce=>?_);refine sm (A:=RT.po) (M:=M) eN rfl rfl rfl rfl rfl (by assumption) (by repeat (first|exact ao _ _|refine aV (br (by assumption)) ?_)) (by first|assumption|exact Step.lt (by assumption) (by assumption)|exact Step.lt (by assumption) (Step.lt (by assumption) (by assumption))) (fun Lb Lc k3 ox QP=>?_);refine ad (ak (ak (aj ?_)));refine ax (M:=M) (A:=RT.po) (B:=RT.int .i64) bm rfl rfl I3 (by decide) (B6) rfl rfl (by decide) (by assumption) (by repeat (first|exact ao _ _|refine aV (br (by assumption)) ?_)) (fun QV Ct=>?_);refine b4 (M:=M) ay rfl rfl Ct (ao _ _) (fun Kc=>?_);refine bI (v':= .int .i64 d) rfl ?_;simp only at Kc;refine ae rfl rfl (fh rfl rfl rfl (ae rfl rfl ?_));refine aL (g:=16) rfl (fun XG=>?_) (fun XG=>?_)
   ·refine aq rfl rfl rfl rfl (aq rfl rfl rfl rfl (aq rfl rfl rfl rfl (aP rfl rfl rfl (ae rfl rfl (aq rfl rfl rfl rfl (aq rfl rfl rfl rfl (aq rfl rfl rfl rfl (aq rfl rfl rfl rfl (aP rfl rfl rfl (ae rfl rfl (aq rfl rfl rfl rfl ?_)))))))))));refine aq rfl rfl rfl rfl (aq rfl rfl rfl rfl (aq rfl rfl rfl rfl (aP rfl rfl rfl (ad (jH rfl (ak (aj (ah rfl rfl (ad (aM ?_))))))))));refine aS rfl rfl ⟨congrArg Value.bool (ei ?_),S.aw ox⟩;rw[hr,kn hx]
    first
    |(rw[decide_eq_false (show¬last<d by omega)];simp;done)
    |(rw[decide_eq_false (show¬d<2147483648 by omega)];simp;done)
    |(rw[show ps=[]from gr.1 (by omega)];simp;done)
    |(simp[c5];done)
   ·refine an rfl rfl ?_;refine ax (M:=M) (A:=RT.po) (B:=RT.int .i64) bm rfl rfl I3 (by decide) (B6) rfl rfl (by decide) (by assumption) (by repeat (first|exact ao _ _|refine aV (br (by assumption)) ?_)) (fun afd Rj=>?_);refine an rfl rfl ?_;refine b4 (M:=M) ay rfl rfl Rj (ao _ _) (fun abA=>?_);refine bI (v':= .int .i64 d) rfl (an rfl rfl (dN rfl rfl rfl (aE rfl rfl rfl (ae rfl rfl ?_))));refine aL (g:=21) rfl (fun XH=>?_) (fun XH=>?_)
    ·refine aq rfl rfl rfl rfl (aq rfl rfl rfl rfl (aq rfl rfl rfl rfl (aq rfl rfl rfl rfl (aP rfl rfl rfl (ae rfl rfl (aq rfl rfl rfl rfl (aq rfl rfl rfl rfl (aq rfl rfl rfl rfl (aq rfl rfl rfl rfl (aP rfl rfl rfl (ad ?_)))))))))));refine jH rfl (ak (aj (ah rfl rfl (ad (aM ?_)))));refine aS rfl rfl ⟨congrArg Value.bool (ei ?_),S.aw ox⟩;rw[hr,kn hx]
     first
     |(rw[decide_eq_false (show¬last<d by omega)];simp;done)
     |(rw[decide_eq_false (show¬d<2147483648 by omega)];simp;done)
     |(rw[show ps=[]from gr.1 (by omega)];simp;done)
     |(simp[c5];done)
    ·refine an rfl rfl ?_;refine ax (M:=M) (A:=RT.po) (B:=(RT.int .i64).sl) bm rfl rfl jE (by decide) (H2) rfl rfl (by decide) (by assumption) (by repeat (first|exact ao _ _|refine aV (br (by assumption)) ?_)) (fun abB XI=>?_);refine an rfl rfl ?_;refine bw (M:=M) au rfl rfl rfl rfl rfl (by assumption) (by repeat (first|exact ao _ _|refine aV (br (by assumption)) ?_)) (fun abC MU=>?_);refine an rfl rfl (bz au rfl MU rfl (bI (v':= .int .i64 ps.length) rfl (an rfl rfl (rT rfl rfl rfl (aE rfl rfl rfl (ae rfl rfl ?_))))));refine aL (g:=27) rfl (fun Ke=>?_) (fun Ke=>?_)
     ·refine aq rfl rfl rfl rfl (aq rfl rfl rfl rfl (aq rfl rfl rfl rfl (aq rfl rfl rfl rfl (aP rfl rfl rfl (ad (jH rfl (ak (aj (ah rfl rfl (ad (aM ?_)))))))))));refine aS rfl rfl ⟨congrArg Value.bool (ei ?_),S.aw ox⟩;rw[hr,kn hx]
      first
      |(rw[decide_eq_false (show¬last<d by omega)];simp;done)
      |(rw[decide_eq_false (show¬d<2147483648 by omega)];simp;done)
      |(rw[show ps=[]from gr.1 (by omega)];simp;done)
      |(simp[c5];done)
     ·refine an rfl rfl ?_;refine ax (M:=M) (A:=RT.po) (B:=(RT.int .i64).sl) bm rfl rfl jE (by decide) (H2) rfl rfl (by decide) (by assumption) (by repeat (first|exact ao _ _|refine aV (br (by assumption)) ?_)) (fun abD XJ=>?_);refine an rfl rfl ?_;refine bw (M:=M) au rfl rfl rfl rfl rfl (by assumption) (by repeat (first|exact ao _ _|refine aV (br (by assumption)) ?_)) (fun abE MV=>?_);refine an rfl rfl ?_;refine aT rfl rfl U3 (zX MV) (fun r5 w5 h5=>?_);obtain⟨rfl,rfl⟩:=h5;refine an rfl rfl (jx rfl rfl (bI (v':= .bool (decide (¬l9 ps=true))) (by simp) (aE rfl rfl rfl (ad ?_))));refine bK rfl (fun c5=>?_) (fun c5=>?_)
      ·refine ak (aj (ah rfl rfl (ad (aM ?_))));refine aS rfl rfl ⟨congrArg Value.bool (ei ?_),S.aw ox⟩;rw[hr,kn hx]
       first
       |(rw[decide_eq_false (show¬last<d by omega)];simp;done)
       |(rw[decide_eq_false (show¬d<2147483648 by omega)];simp;done)
       |(rw[show ps=[]from gr.1 (by omega)];simp;done)
       |(simp[c5];done)
      ·refine aU (aj ?_);refine ax (M:=M) (A:=RT.po) (B:=RT.int .i64) bm rfl rfl I3 (by decide) (B6) rfl rfl (by decide) (by assumption) (by repeat (first|exact ao _ _|refine aV (br (by assumption)) ?_)) (fun P4 Cf=>?_);refine b4 (M:=M) ay rfl rfl Cf (ao _ _) (fun abF=>?_);refine bI (v':= .int .i64 d) rfl (ah rfl rfl (ad (aj (bE rfl rfl rfl (by omega) (ae rfl rfl (ad ?_))))));refine⟨rfl,(k+1,d),(.cons rfl (.cons rfl (.cons rfl (.cons rfl .nil)))),?_,?_⟩
       ·refine⟨S.aw ox,by simp only;omega,?_⟩
        have eE:ps.isEmpty=false:=by cases ps with
         |nil=>simp at Ke
         |cons a t=>rfl
        rw[hr,kn hx,decide_eq_true (show last<d by omega),decide_eq_true (show d<2147483648 by omega),eE,b5.1 c5];rfl
       ·simp only;omega
  ·refine cK (ak (aj (ah rfl rfl (ad (aM ?_)))));refine aS rfl rfl ⟨congrArg Value.bool (ei ?_),S⟩;rw[hr,fz (by omega)];rfl
theorem BA {M:aI} {w0:World} {v:Value} {l:List Po} (hM:Lt M w0) (hv:((RT.po).sl).V M w0 l v):
  Spec Tryz.prog 172 #[v,.int .i64 8] w0 (fun v' w'=>∃bs bn,v'= .func (.func 213) [].toArray [.pointer (some ⟨bs,0,none⟩),.pointer (some ⟨bn,0,none⟩)].toArray∧w'.heap[bs]? =some (.cells #[v] 107 (0,0))∧w'.heap[bn]? =some (.cells #[.int .i64 8] 3 (0,0))∧w0.heap.size≤bs∧w0.heap.size≤bn∧Step M w0 M w' aD):=by
 refine bh (args:=[_,_]) (fn:=Tryz.f172) Tryz.func172 rfl (n:=9) Tryz.ntmps172 (ak (aj ?_));refine Rg.box M rfl rfl (fun bs w1 h1 O9 hS s1=>?_);rw[gw hv]at hS;refine Rg.box (ins M bs) rfl rfl (fun bn w2 h2 xy hN s2=>?_);have hS2:=s2.aN hS;have hz1:=s1.size;refine ah rfl rfl (ad (ak (ak (aj (aX ay rfl rfl rfl hN rfl (cj rfl rfl rfl (ad (T.D6 rfl ((by decide)) (aU (ak (aj ?_)))))))))));refine lD (xs:=[]) (ys:=[.tmp 2,.tmp 3]) rfl rfl rfl (ah rfl rfl (ad (aM ?_)));exact aS rfl rfl ⟨bs,bn,rfl,hS2,hN,h1,by omega,(s1.aw s2).back⟩
theorem zZ {w0:World} {bs bn yl:Nat} {v:Value} {l:List Po} {M:aI} {wv:World} {J:Nat→World→Prop} {Jx:World→Prop} (hv:((RT.po).sl).V M wv l v) (jz:∀i w w',J i w→Step aD w aD w' aD→J i w') (GA:∀i w,J i w→w.heap[bs]? =some (.cells #[v] 107 (0,0))∧w.heap[bn]? =some (.cells #[.int .i64 8] 3 (0,0))) (hy:∀(i:Nat) (w:World) (u:Value),J i w→i<l.length→((RT.po).sl).V M wv ((l.drop i).take 8) u→tf Tryz.prog yl [u].toArray w (fun r w'=>∃b,r= .bool b∧(b=true→J (min (i+8) l.length) w')∧(b=false→Jx w'))) (h0:J 0 w0):
  Spec Tryz.prog 213 #[.func (.yield yl) #[] #[],.pointer (some ⟨bs,0,none⟩),.pointer (some ⟨bn,0,none⟩)] w0 (fun _ w'=>J l.length w'∨Jx w'):=by
 have hlen:=dd hv;refine bh (args:=[_,_,_]) (fn:=Tryz.f213) Tryz.func213 rfl (n:=31) Tryz.ntmps213 (ak (aj (ah rfl rfl (ad (aW ?_)))));refine cX (σ:=Nat) (fun s=>[(0,.func (.yield yl) #[] #[]),(1,.pointer (some ⟨bs,0,none⟩)),(2,.pointer (some ⟨bn,0,none⟩)),(4,.int .i64 s)]) (fun s w=>J (min s l.length) w∧s≤l.length+8) (fun s=>l.length+8-s) 0 (.cons rfl (.cons rfl (.cons rfl (.cons rfl .nil)))) ?_ ?_
 ·exact⟨by rw[Nat.zero_min];exact h0,bC _⟩
 ·rintro k w1 ⟨hJ,hk⟩;obtain⟨nA,qt⟩:=GA _ _ hJ;refine ak (ak (aj (ae rfl rfl (aX aR rfl rfl rfl nA rfl ?_))))
  first|refine bz aR rfl (by assumption) rfl ?_|refine ie aR rfl (by assumption) rfl ?_
  refine cj rfl rfl rfl (ad ?_);refine bK rfl (fun c1=>?_) (fun c1=>?_)
  ·refine aU (ak (aW (ak ?_)));apply T.draw (M:=aD) mixed [cH.eq _,cH.eq _,cH.eq _,cH.pure (fun v=>((RT.po).sl).V M wv (l.drop k) v),cH.eq _,cH.eq _,cH.eq _]
   ·rfl
   ·refine aY ?_ ?_
    ·intro wD E sD;refine aX ay rfl rfl rfl (cQ sD qt) rfl ?_;exact ad ⟨rfl,rfl,_,rfl,rfl,ar _ _⟩
    refine aY ?_ ?_
    ·intro wD E sD;refine aX aR rfl rfl rfl (cQ sD nA) rfl ?_;exact ad ⟨rfl,rfl,_,rfl,rfl,ar _ _⟩
    refine aY ?_ ?_
    ·intro wD E sD;refine ae rfl rfl ?_;exact ad ⟨rfl,rfl,_,rfl,rfl,ar _ _⟩
    refine aY ?_ ?_
    ·intro wD E sD;refine aZ (aZ ?_);refine Rg.pK (A:=RT.po) (hn:=by decide) aR eN rfl rfl rfl hv (by omega) (fun u hu=>?_);rw[aB]at hu;exact ad ⟨rfl,rfl,_,rfl,hu,ar _ _⟩
    refine aY ?_ ?_
    ·intro wD E sD;intro v3 qw;have XK:((RT.po).sl).V M wv (l.drop k) v3:=qw;refine bz aR rfl XK rfl ?_;exact ad ⟨rfl,rfl,_,rfl,rfl,ar _ _⟩
    refine aY ?_ ?_
    ·intro wD E sD;refine aZ (aZ (Rg.min2 rfl rfl rfl ?_));exact ad ⟨rfl,rfl,_,rfl,rfl,ar _ _⟩
    refine aY ?_ ?_
    ·intro wD E sD;refine aZ (aZ (aZ (aZ ?_)));intro v3 qw;refine aZ (aZ (ah rfl rfl ?_));exact ad ⟨rfl,rfl,_,rfl,rfl,ar _ _⟩
    exact cy.nil
   ·intro PG oa;refine aZ (aZ (aZ ?_));intro Xy Rc;refine aZ (aZ (aZ ?_));rw[show min k l.length=k from by omega]at hJ;have Qp:=jz _ _ _ hJ oa;obtain⟨hb3,hb4⟩:=GA _ _ Qp;refine ak (aj (ae rfl rfl (aX aR rfl rfl rfl hb3 rfl (ae rfl rfl (ae rfl rfl (ae rfl rfl (bE rfl rfl rfl (by omega) (ae rfl rfl (ae rfl rfl (bE rfl rfl rfl (by omega) ?_))))))))));refine Rg.CY (A:=RT.po) (hn:=by decide) aR eN rfl rfl rfl rfl rfl hv (by rw[cP];omega) (fun u hu=>?_)
    have he:(l.take ((k:Int)+min 8 ((l.drop k).length:Int)).toNat).drop (k:Int).toNat=(l.drop k).take 8:=by
     rw[aB,List.drop_take,cP,show((k:Int)+min 8 ((l.length-k:Nat):Int)).toNat-k=min 8 (l.length-k)from by omega,List.take_eq_take_iff,cP];omega
    rw[he]at hu;refine Rg.yield rfl (vs:=[u]) rfl rfl (hy k _ u Qp (by omega) hu) (fun r4 w4 h4=>?_);obtain⟨b,rfl,JG,nR⟩:=h4;refine jx rfl rfl (bI (v':= .bool (decide (¬b=true))) (by simp) (ad ?_));refine bK rfl (fun c4=>?_) (fun c4=>?_)
    ·refine aM ?_;exact yC rfl (.inr (nR (by simpa using c4)))
    ·refine aU (aj (ae rfl rfl ?_));have hJ5:=JG (b5.1 c4);refine aX ay rfl rfl rfl (GA _ _ hJ5).2 rfl (bE rfl rfl rfl (by omega) (ah rfl rfl (ad ?_)));refine⟨rfl,k+8,(.cons rfl (.cons rfl (.cons rfl (.cons rfl .nil)))),?_,?_⟩
     ·exact⟨hJ5,by omega⟩
     ·show l.length+8-(k+8)<l.length+8-k;omega
  ·refine cK ?_;rw[show min k l.length=l.length from by omega]at hJ;change vv Tryz.prog Tryz.f213 (fun _ w'=>J l.length w'∨Jx w') .normal _ [] _;exact kh rfl (.inl hJ)
end Go.K
namespace Go.K
open Go.Proofs
set_option maxRecDepth 10000
structure lx (M:aI) (w0:World) (v:Value) (bo bx bl D bs bn:Nat) (st:Obj) (vb vk:Value) (tot last:Int) (b:List UInt8) (ks:List Bl) (M1:aI) (w:World):Prop where
 lt:Lt M1 w
 S:Step M w0 M1 w aD
 mo:M1 bo
 mx:M1 bx
 ml:M1 bl
 md:M1 D
 mr:M1 (D+1)
 o:w.heap[bo]? =some (.cells #[.pointer (some ⟨bx,0,none⟩)] 129 (0,0))
 x:w.heap[bx]? =some (.cells #[vb,vk,.int .i64 tot] 193 (0,0))
 l:w.heap[bl]? =some (.cells #[.int .i64 last] 3 (0,0))
 d:w.heap[D]? =some (.deferred (some []))
 r:w.heap[D+1]? =some st
 s:w.heap[bs]? =some (.cells #[v] 107 (0,0))
 n:w.heap[bn]? =some (.cells #[.int .i64 8] 3 (0,0))
 ne:bo≠bx∧bo≠bl∧bx≠bl∧bo<D∧bx<D∧bl<D∧bs<D∧bn<D∧bs≠bo∧bs≠bx∧bs≠bl∧bn≠bo∧bn≠bx∧bn≠bl∧w0.heap.size≤bo∧w0.heap.size≤bx∧w0.heap.size≤bl∧w0.heap.size≤D
 hb:(RT.u8.sl).V M1 w b vb
 hk:Own RT.bl 195 M1 w (D+2) vk ks
section
variable {M M1 M2:aI} {w0 w w':World} {v vb vk:Value} {bo bx bl D bs bn:Nat} {st:Obj} {tot last:Int} {b:List UInt8} {ks:List Bl}
theorem lx.step (h:lx M w0 v bo bx bl D bs bn st vb vk tot last b ks M1 w) (s:Step M1 w M2 w' aD):lx M w0 v bo bx bl D bs bn st vb vk tot last b ks M2 w':=
 ⟨s.lt h.lt,h.S.aw s,(s.mem _ (h.lt _ h.mo)).2 h.mo,(s.mem _ (h.lt _ h.mx)).2 h.mx,(s.mem _ (h.lt _ h.ml)).2 h.ml,(s.mem _ (h.lt _ h.md)).2 h.md,(s.mem _ (h.lt _ h.mr)).2 h.mr,
  s.aN h.o,s.aN h.x,s.aN h.l,s.aN h.d,s.aN h.r,s.aN h.s,s.aN h.n,h.ne,h.hb.le s.le,h.hk.a7 s⟩
theorem lx.IY {n:Int} (h:lx M w0 v bo bx bl D bs bn st vb vk tot last b ks M1 w) (s:Step M1 w M1 w' (fun k=>k=bl)) (hl:w'.heap[bl]? =some (.cells #[.int .i64 n] 3 (0,0))):lx M w0 v bo bx bl D bs bn st vb vk tot n b ks M1 w':=by
 obtain⟨e1,e2,e3,e4,e5,e6,e7,e8,e9,Ox,Rk,Oy,Oz,Rl,TE,OA,Rm,TF⟩:=h.ne
 exact⟨s.lt h.lt,h.S.cR s (fun k hk=>by subst hk;exact Rm),h.mo,h.mx,h.ml,h.md,h.mr,s.bM h.o e2,s.bM h.x e3,hl,s.bM h.d (by omega),s.bM h.r (by omega),s.bM h.s Rk,s.bM h.n Rl,h.ne,h.hb.le s.le,
  h.hk.step s (fun k hk hh=>by have:=(h.hk.base k hk).1;omega)⟩
theorem lx.MW {XL MX:Value} {Rn:Int} {b':List UInt8} {Ro:List Bl} (h:lx M w0 v bo bx bl D bs bn st vb vk tot last b ks M1 w) (s:Step M1 w M1 w' (fun k=>k=bx)) (hx:w'.heap[bx]? =some (.cells #[XL,MX,.int .i64 Rn] 193 (0,0)))
  (hb:(RT.u8.sl).V M1 w' b' XL) (hk:Own RT.bl 195 M1 w (D+2) MX Ro):lx M w0 v bo bx bl D bs bn st XL MX Rn last b' Ro M1 w':=by
 obtain⟨e1,e2,e3,e4,e5,e6,e7,e8,e9,Ox,Rk,Oy,Oz,Rl,TE,OA,Rm,TF⟩:=h.ne
 exact⟨s.lt h.lt,h.S.cR s (fun k hk=>by subst hk;exact OA),h.mo,h.mx,h.ml,h.md,h.mr,s.bM h.o e1,hx,s.bM h.l (Ne.symm e3),s.bM h.d (by omega),s.bM h.r (by omega),s.bM h.s Ox,s.bM h.n Oz,h.ne,hb,
  hk.step s (fun k qF hh=>by have:=(hk.base k qF).1;omega)⟩
theorem lx.mv {st':Obj} (h:lx M w0 v bo bx bl D bs bn st vb vk tot last b ks M1 w) (jz:w.heap[D+1]? =some st):lx M w0 v bo bx bl D bs bn st' vb vk tot last b ks M1 (w.putObj (D+1) st'):=by
 have s:Step M1 w M1 (w.putObj (D+1) st') (fun k=>k=D+1):=dK h.mr;obtain⟨e1,e2,e3,e4,e5,e6,e7,e8,e9,Ox,Rk,Oy,Oz,Rl,TE,OA,Rm,TF⟩:=h.ne
 exact⟨s.lt h.lt,h.S.cR s (fun k hk=>by subst hk;omega),h.mo,h.mx,h.ml,h.md,h.mr,s.bM h.o (by omega),s.bM h.x (by omega),s.bM h.l (by omega),s.bM h.d (by omega),World.putObj_heap_same (al jz),s.bM h.s (by omega),s.bM h.n (by omega),h.ne,h.hb.le s.le,
  h.hk.step s (fun k qF hh=>by have:=(h.hk.base k qF).1;omega)⟩
theorem lx.other {q:Nat} (h:lx M w0 v bo bx bl D bs bn st vb vk tot last b ks M1 w) (s:Step M1 w M1 w' (fun k=>k=q)) (hq:D+1<q) (TG:∀k,vk.ownBlock=some k→k≠q):lx M w0 v bo bx bl D bs bn st vb vk tot last b ks M1 w':=by
 obtain⟨e1,e2,e3,e4,e5,e6,e7,e8,e9,Ox,Rk,Oy,Oz,Rl,TE,OA,Rm,TF⟩:=h.ne
 exact⟨s.lt h.lt,h.S.cR s (fun k hk=>by subst hk;omega),h.mo,h.mx,h.ml,h.md,h.mr,s.bM h.o (by omega),s.bM h.x (by omega),s.bM h.l (by omega),s.bM h.d (by omega),s.bM h.r (by omega),s.bM h.s (by omega),s.bM h.n (by omega),h.ne,h.hb.le s.le,
  h.hk.step s (fun k qF hh=>TG k qF hh)⟩
theorem lx.grow {MX:Value} {Ro:List Bl} (h:lx M w0 v bo bx bl D bs bn st vb vk tot last b ks M1 w) (s:Step M1 w M2 w' (fun k=>vk.ownBlock=some k)) (hk:Own RT.bl 195 M2 w' (D+2) MX Ro):
  (w'.heap[bx]? =some (.cells #[vb,vk,.int .i64 tot] 193 (0,0))∧M2 bx∧Lt M2 w')∧∀{w2:World},Step M2 w' M2 w2 (fun k=>k=bx)→w2.heap[bx]? =some (.cells #[vb,MX,.int .i64 tot] 193 (0,0))→lx M w0 v bo bx bl D bs bn st vb MX tot last b Ro M2 w2:=by
 obtain⟨e1,e2,e3,e4,e5,e6,e7,e8,e9,Ox,Rk,Oy,Oz,Rl,TE,OA,Rm,TF⟩:=h.ne;have hn:∀k,vk.ownBlock=some k→D+2≤k:=fun k hk=>(h.hk.base k hk).1
 have dZ:=fun {k:Nat} (hm:M1 k)=>(s.mem k (h.lt k hm)).2 hm
 refine⟨⟨s.bM h.x (fun hh=>by have:=hn _ hh;omega),dZ h.mx,s.lt h.lt⟩,fun {w2} s2 hx=>?_⟩;have S':=h.S.cR s (fun k hk=>by have:=hn k hk;omega)
 exact⟨s2.lt (s.lt h.lt),S'.cR s2 (fun k hk=>by subst hk;exact OA),dZ h.mo,dZ h.mx,dZ h.ml,dZ h.md,dZ h.mr,s2.bM (s.bM h.o (fun hh=>by have:=hn _ hh;omega)) e1,hx,s2.bM (s.bM h.l (fun hh=>by have:=hn _ hh;omega)) (Ne.symm e3),
  s2.bM (s.bM h.d (fun hh=>by have:=hn _ hh;omega)) (by omega),s2.bM (s.bM h.r (fun hh=>by have:=hn _ hh;omega)) (by omega),s2.bM (s.bM h.s (fun hh=>by have:=hn _ hh;omega)) Ox,s2.bM (s.bM h.n (fun hh=>by have:=hn _ hh;omega)) Oz,h.ne,(h.hb.le s.le).le s2.le,
  hk.step s2 (fun k qF hh=>by have:=(hk.base k qF).1;omega)⟩
end
def GB (M:aI) (w0:World) (l:List Po) (v:Value) (bo bx bl D bs bn:Nat) (st:Obj) (i:Nat) (w:World):Prop:=
 ∃(M1:aI) (vb vk:Value),lx M w0 v bo bx bl D bs bn st vb vk (gG (l.take i)) (cO (-1) (l.take i)) (dy (-1) (l.take i)) (ll l ((i+7)/8)) M1 w∧(i%8=0∨i=l.length)∧i≤l.length
theorem MY {M:aI} {w0 w2 w3 w5 w6 w7:World} {v:Value} {l:List Po} {bo bx bl bs bn:Nat} {st:Obj} (S6:Step M w0 (ins (ins (ins M bx) bo) bl) w6 aD) (s7:Step (ins (ins (ins M bx) bo) bl) w6 (ins (ins (ins M bx) bo) bl) w7 aD) (hM:Lt M w0)
  (e1:bo<w6.heap.size) (e2:bx<w6.heap.size) (e3:bl<w6.heap.size) (n1:bo≠bx) (n2:bo≠bl) (n3:bx≠bl)
  (hO:w6.heap[bo]? =some (.cells #[.pointer (some ⟨bx,0,none⟩)] 129 (0,0))) (hX:w6.heap[bx]? =some (.cells #[.slice none 0 0,.slice none 0 0,.int .i64 0] 193 (0,0))) (hL:w6.heap[bl]? =some (.cells #[.int .i64 (-1)] 3 (0,0)))
  (hS:w7.heap[bs]? =some (.cells #[v] 107 (0,0))) (hN:w7.heap[bn]? =some (.cells #[.int .i64 8] 3 (0,0))) (hbs:w6.heap.size≤bs) (Tc:w6.heap.size≤bn)
  (g1:w0.heap.size≤bo) (g2:w0.heap.size≤bx) (g3:w0.heap.size≤bl):
  GB M w0 l v bo bx bl w7.heap.size bs bn st 0 ((w7.alloc (.deferred (some []))).alloc st):=by
 have sA:Step (ins (ins (ins M bx) bo) bl) w7 (ins (ins (ins (ins M bx) bo) bl) w7.heap.size) (w7.alloc (.deferred (some []))) aD:=(db _ w7 _).own (a8 _) (by simp);have sB:Step (ins (ins (ins (ins M bx) bo) bl) w7.heap.size) (w7.alloc (.deferred (some []))) (ins (ins (ins (ins (ins M bx) bo) bl) w7.heap.size) (w7.heap.size+1)) ((w7.alloc (.deferred (some []))).alloc st) aD:=(db _ _ _).own (by simp) (by simp);have z7:=s7.size;have hs7:=al hS;have hn7:=al hN;have S:=((S6.aw s7).aw sA).aw sB;have hD:(w7.alloc (.deferred (some []))).heap[w7.heap.size]? =some (.deferred (some [])):=cz w7 _;have hR:((w7.alloc (.deferred (some []))).alloc st).heap[w7.heap.size+1]? =some st:=by have:=cz (w7.alloc (.deferred (some []))) st;rwa [World.size_alloc]at this
 have z0:=S6.size;refine⟨_,.slice none 0 0,.slice none 0 0,⟨S.lt hM,S,?_,?_,?_,?_,.inl rfl,sB.aN (sA.aN (s7.aN hO)),sB.aN (sA.aN (s7.aN hX)),sB.aN (sA.aN (s7.aN hL)),sB.aN hD,hR,sB.aN (sA.aN hS),sB.aN (sA.aN hN),by omega,j5,dw _ _ _ _ _⟩,.inl rfl,bC _⟩
 ·exact .inr (.inr (.inr (.inl rfl)))
 ·exact .inr (.inr (.inr (.inr (.inl rfl))))
 ·exact .inr (.inr (.inl rfl))
 ·exact .inr (.inl rfl)
set_option maxHeartbeats 4000000 in
theorem xf {M:aI} {w0:World} {v:Value} {l:List Po} (hM:Lt M w0) (hv:((RT.po).sl).V M w0 l v) (so:∀p∈l,p.2.length≤1099511627776) (AA:(dy (-1) l).length≤35184372088832) (N9:l.length≤1099511627776) (afg:gG l≤4611686018427387904):
  Spec Tryz.prog 126 #[v] w0 (fun v' w'=>Step M w0 M w' aD∧(eR (-1) l=true→∃p,v'= .tuple #[p,.int .i64 0]∧cf RT.li M w' p (kP l))∧(eR (-1) l=false→v'= .tuple #[.pointer none,.int .i64 1])):=by
 have hlen:=dd hv;refine nv (args:=[_]) (fn:=Tryz.f126) Tryz.func126 rfl (n:=85) Tryz.ntmps126 (ak (aj (ah rfl rfl (ah rfl rfl (ad (ak (ak (aj (ae rfl rfl ?_)))))))));refine aT rfl rfl UT (DE hM hv) (fun r w1 h1=>?_);obtain⟨rfl,s1⟩:=h1;refine jx rfl rfl (bI (v':= .bool (decide (¬eR (-1) l=true))) (by simp) (ad ?_));refine bK rfl (fun c1=>?_) (fun c1=>?_)
 ·refine ak (aj (ah rfl rfl (ah rfl rfl (ad (aM ?_)))));exact HY rfl rfl rfl ⟨s1,fun h=>absurd h c1,fun _=>rfl⟩
 ·have lT:=b5.1 c1;refine aU (ak (aj (eM (places:=[(0,1),(1,1),(2,1)]) dA UE UI rfl rfl (out:=[.slice none 0 0,.slice none 0 0,.int .i64 0]) rfl ?_)));refine Rg.box M rfl rfl (fun bx w2 GA afh hX s2=>?_);change w2.heap[bx]? =some (.cells #[.slice none 0 0,.slice none 0 0,.int .i64 0] 193 (0,0))at hX;refine dL (ins M bx) vE rfl (fun bo w3 IZ Rp hO s3=>?_);refine cu (M:=ins (ins M bx) bo) vE rfl rfl hO rfl rfl (.inl rfl) (fun w4 hO4 s4=>?_);refine ad (ak (aj ?_));refine dL (ins (ins M bx) bo) I3 rfl (fun bl w5 afj abI hL s5=>?_);refine cu (M:=ins (ins (ins M bx) bo) bl) I3 rfl rfl hL rfl rfl (.inl rfl) (fun w6 hL6 s6=>?_);have z1:=s1.size;have z2:=s2.size;have z3:=s3.size;have z4:=s4.size;have z5:=s5.size;have z6:=s6.size;have S6:Step M w0 (ins (ins (ins M bx) bo) bl) w6 aD:=((((s1.aw s2).aw s3).cR s4 (fun k hk=>by subst hk;omega)).aw s5).cR s6 (fun k hk=>by subst hk;omega);have hO6:=s6.bM (s5.aN hO4) (show bo≠bl by omega);have hX6:=s6.bM (s5.aN (s4.bM (s3.aN hX) (show bx≠bo by omega))) (show bx≠bl by omega);refine ad (ak (ak (aj (ae rfl rfl ?_))));refine aT rfl rfl UU (BA (M:=ins (ins (ins M bx) bo) bl) (S6.lt hM) (hv.le S6.le)) (fun r w7 h7=>?_);obtain⟨bs,bn,rfl,hS7,hN7,hbs,Tc,s7⟩:=h7;have z7:=s7.size;have afn:=al hS7;have afo:=al hN7;refine ad (aW ?_);refine T.range (gf:=213) (lb:=[.pointer (some ⟨bs,0,none⟩),.pointer (some ⟨bn,0,none⟩)].toArray) rfl U4 (fun rec mX=>?_);obtain⟨D,hD⟩:∃D,D=w7.heap.size:=⟨_,rfl⟩;rw[←hD]at mX ⊢
  have h0:GB M w0 l v bo bx bl D bs bn (.loop (rec .ready none)) 0 ((w7.alloc (.deferred (some []))).alloc (.loop (rec .ready none))):=by
   rw[hD]at mX ⊢;exact MY (w2:=w7) (w3:=w7) (w5:=w7) S6 s7 hM (by omega) (by omega) (by omega) (by omega) (by omega) (by omega) hO6 hX6 hL6 hS7 hN7 hbs Tc (by omega) (by omega) (by omega)
  refine Spec.mono (zZ (M:=M) (wv:=w0) (J:=GB M w0 l v bo bx bl D bs bn (.loop (rec .ready none))) (Jx:=fun _=>False) hv (fun i w w' ⟨M1,vb,vk,h,h2⟩ s=>⟨M1,vb,vk,h.step (s.any M1),h2⟩) (fun i w ⟨M1,vb,vk,h,h2⟩=>⟨h.s,h.n⟩) (fun i wr u hJ hi hu=>?_) h0) (fun _ w3 h3=>?_)
  ·obtain⟨M1,vb,vk,h,hi8,mM⟩:=hJ;refine lK (ps:=[17]) (vs:=[u]) mX h.r rfl (by decide) (aj (ah rfl rfl (ad ?_)));refine⟨rfl,h.r,?_⟩;have h1:=h.mv (st':= .loop (rec .busy none)) h.r;generalize wr.putObj (D+1) _=wB at h1 ⊢;have hO:=h1.o;have hX:=h1.x;have hL:=h1.l;have hB:=h1.hb;have dD:=h1.lt;have qE:((l.drop i).take 8).length≤8:=by rw[bF];omega
   have afp:((l.drop i).take 8).length=min 8 (l.length-i):=by rw[bF,cP]
   obtain⟨q1,q2,q3,q4,q5,q6,q7,q8,q9,q10,q11,q12,q13,q14,q15,q16,q17,q18⟩:=h1.ne;refine aW (ak ?_);apply T.B2 (M:=M1) (n:=85) _ mixed [] [cH.eq _,cH.eq _,cH.eq _,cH.eq _,cH.eq _,cH.eq _,cH.eq _,cH.eq _,cH.eq _,cH.mk' (fun p w'=>∃bq,p= .pointer (some ⟨bq,0,none⟩)∧wB.heap.size≤bq∧w'.heap[bq]? =some (.cells #[.int .i64 0,.int .i64 0,.int .i64 0,.int .i64 0] 195 (0,0))) (fun⟨bq,h1,h2,h3⟩ s=>⟨bq,h1,h2,s.aN h3⟩)]
   ·rfl
   ·rfl
   ·rfl
   ·rfl
   ·exact fun p hp=>by cases hp
   ·exact uV.none
   ·refine bu ?_ ?_
    ·intro wD E sD;refine aX dV rfl rfl rfl (cQ sD (by assumption)) rfl ?_;exact ad ⟨rfl,rfl,_,rfl,rfl,ar _ _⟩
    refine bu ?_ ?_
    ·intro wD E sD;refine aZ (bZ rfl ⟨_,rfl⟩ rfl ?_);exact ad ⟨rfl,rfl,_,rfl,rfl,ar _ _⟩
    refine bu ?_ ?_
    ·intro wD E sD;refine aZ (bH dA rfl rfl yV (by decide) rfl rfl ?_);exact ad ⟨rfl,rfl,_,rfl,rfl,ar _ _⟩
    refine bu ?_ ?_
    ·intro wD E sD;refine aZ (aX bD rfl rfl rfl (cQ sD (by assumption)) rfl ?_);exact ad ⟨rfl,rfl,_,rfl,rfl,ar _ _⟩
    refine bu ?_ ?_
    ·intro wD E sD;refine aZ ?_
     first|refine bz bD rfl (by assumption) rfl ?_|refine ie bD rfl (by assumption) rfl ?_
     exact ad ⟨rfl,rfl,_,rfl,rfl,ar _ _⟩
    refine bu ?_ ?_
    ·intro wD E sD;refine aX ay rfl rfl rfl (cQ sD (by assumption)) rfl ?_;exact ad ⟨rfl,rfl,_,rfl,rfl,ar _ _⟩
    refine bu ?_ ?_
    ·intro wD E sD;refine ae rfl rfl ?_;exact ad ⟨rfl,rfl,_,rfl,rfl,ar _ _⟩
    refine bu ?_ ?_
    ·intro wD E sD;refine aZ ?_
     first|refine bz aR rfl (by assumption) rfl ?_|refine ie aR rfl (by assumption) rfl ?_
     exact ad ⟨rfl,rfl,_,rfl,rfl,ar _ _⟩
    refine bu ?_ ?_
    ·intro wD E sD;refine aZ (aZ (aZ (eM (places:=[(0,1),(1,1),(2,1),(3,1)]) iy rW UJ rfl ⟨_,_,rfl,rfl,_,_,rfl,rfl,_,_,rfl,rfl,rfl⟩ (out:=[.int .i64 (dy (-1) (l.take i)).length,.int .i64 (cO (-1) (l.take i)),.int .i64 0,.int .i64 ((l.drop i).take 8).length]) ⟨0,[_],rfl,rfl,by simp[Value.cells],1,[_],rfl,rfl,by simp[Value.cells],3,[_],rfl,rfl,by simp[Value.cells],rfl⟩ ?_)));exact ad ⟨rfl,rfl,_,rfl,rfl,ar _ _⟩
    refine bu ?_ ?_
    ·intro wD E sD;refine dL M1 rW rfl (fun bq wq e1 e2 e3 s=>?_);exact ad ⟨rfl,rfl,_,rfl,⟨bq,rfl,eJ sD.size e1,e3⟩,s.back⟩
    exact cg.nil
   ·intro XM OB;refine aZ (aZ (aZ (aZ (aZ (aZ (aZ (aZ (aZ ?_))))))));intro afz Rq;obtain⟨bq,rfl,KW,Ux⟩:=Rq;have JC:=al Ux;have sQ:Step M1 wB (ins M1 bq) XM aD:=OB.own KW JC;refine dx (M:=ins M1 bq) (vs:=[.int .i64 (dy (-1) (l.take i)).length,.int .i64 (cO (-1) (l.take i)),.int .i64 0,.int .i64 ((l.drop i).take 8).length]) rW rfl rfl (by intro x hx;simp at hx;rcases hx with rfl|rfl|rfl|rfl<;>rfl) rfl rfl Ux (.inl rfl) (fun wQ hQ sQ2=>?_);refine ad ⟨rfl,?_⟩;have h2:=h1.step (sQ.cR sQ2 (fun k hk=>by subst hk;exact KW));have TG:∀k,vk.ownBlock=some k→k≠bq:=fun k hk=>by have:=(h1.hk.base k hk).2;omega
    have Uy:D+1<bq:=by have:=al h1.r;omega
    have h3:lx M w0 v bo bx bl D bs bn (.loop (rec .busy none)) vb vk (gG (l.take (i+0))) (cO (-1) (l.take (i+0))) (dy (-1) (l.take (i+0))) (ll l ((i+7)/8)) (ins M1 bq) wQ:=h2;obtain⟨M2,Lz⟩:∃M2,M2=ins M1 bq:=⟨_,rfl⟩;rw[←Lz]at h3;refine ak (ak (aj (ae rfl rfl ?_)))
    first|refine bz aR rfl (by assumption) rfl ?_|refine ie aR rfl (by assumption) rfl ?_
    refine ae rfl rfl (ad (aW ?_));refine cX (σ:=Nat×Value) (fun s=>[(4,.pointer (some ⟨bo,0,none⟩)),(5,.pointer (some ⟨bl,0,none⟩)),(6,u),(7,.pointer (some ⟨bq,0,none⟩)),(27,u),(28,.int .i64 ((l.drop i).take 8).length),(29,.int .i64 s.1)]) (fun s w=>s.1≤((l.drop i).take 8).length∧w.heap[bq]? =some (.cells #[.int .i64 (dy (-1) (l.take i)).length,.int .i64 (cO (-1) (l.take i)),.int .i64 0,.int .i64 ((l.drop i).take 8).length] 195 (0,0))∧lx M w0 v bo bx bl D bs bn (.loop (rec .busy none)) s.2 vk (gG (l.take (i+s.1))) (cO (-1) (l.take (i+s.1))) (dy (-1) (l.take (i+s.1))) (ll l ((i+7)/8)) M2 w) (fun s=>((l.drop i).take 8).length-s.1) (0,vb) (.cons rfl (.cons rfl (.cons rfl (.cons rfl (.cons rfl (.cons rfl (.cons rfl .nil))))))) ?_ ?_
    ·exact⟨bC _,hQ,h3⟩
    ·rintro⟨j,vb⟩ wj ⟨hj,hQ,h4⟩;dsimp only at hj hQ h4 ⊢;have dD:=h4.lt;refine ak (aj (cj rfl rfl rfl (ad (ak ?_))));refine bK rfl (fun c9=>?_) (fun c9=>?_)
     ·refine aU (ak (aW (ak (aj ?_))));obtain⟨⟨d,ps⟩,hx⟩:∃x,l[i+j]? =some x:=⟨_,aF (by omega)⟩;obtain⟨f1,f2,f3,f4,f5,f6⟩:=xI lT hx;obtain⟨f7,f8⟩:=ma.1 f4;have fps:=so _ (aH hx);have fb:=lp l (i+j);have ft:=yT l (i+j);have ft2:=yT l (i+j+1);rw[tp hx]at ft2;have ftk:=tn (-1) hx;have ftl:=lp l (i+j+1);simp only at fps;refine cb (M:=M2) aR eN rfl rfl rfl (hu.le h4.S.le) (ao _ _) (by omega) (fun P0 Rr MZ LH=>?_);obtain rfl:(d,ps)=Rr:=ei (aQ (MZ.symm.trans (by rw[aB,eo,if_pos (by omega),List.getElem?_drop];exact hx)));refine b7 (M:=M2) (A:=RT.po) bm rfl eN (by decide) rfl rfl rfl (by assumption) (by repeat (first|exact ao _ _|refine aV (br (by assumption)) ?_)) (fun P1 Fc=>?_);refine sm (A:=RT.po) (M:=M2) eN rfl rfl rfl rfl rfl (by assumption) (by repeat (first|exact ao _ _|refine aV (br (by assumption)) ?_)) (by first|assumption|exact Step.lt (by assumption) (by assumption)|exact Step.lt (by assumption) (Step.lt (by assumption) (by assumption))) (fun abN abO M8 Kf abP=>?_);refine ad (ak ?_);have h5:=h4.step Kf;have hO:=h5.o;have hX:=h5.x;have hL:=h5.l;have hB:=h5.hb;have dD:=h5.lt;have hp0:=M8;apply T.B2 (M:=M2) (n:=85) _ mixed [] [cH.eq _,cH.eq _,cH.eq _,cH.eq _,cH.eq _,cH.ptr (RT.int .i64) d,cH.eq (.int .i64 d),cH.eq _,cH.eq _,cH.eq (.int .i64 (((d-cO (-1) (l.take (i+j))-1).toNat:Nat):Int)),cH.V (RT.u8.sl) (dy (-1) (l.take (i+j))++put (d-cO (-1) (l.take (i+j))-1).toNat),cH.eq _,cH.eq _]
      ·rfl
      ·rfl
      ·rfl
      ·rfl
      ·exact fun p hp=>by cases hp
      ·exact uV.none
      ·refine bu ?_ ?_
       ·intro wD E sD;refine aX dV rfl rfl rfl (cQ sD (by assumption)) rfl ?_;exact ad ⟨rfl,rfl,_,rfl,rfl,ar _ _⟩
       refine bu ?_ ?_
       ·intro wD E sD;refine aX dV rfl rfl rfl (cQ sD (by assumption)) rfl ?_;exact ad ⟨rfl,rfl,_,rfl,rfl,ar _ _⟩
       refine bu ?_ ?_
       ·intro wD E sD;refine aZ (bZ rfl ⟨_,rfl⟩ rfl ?_);exact ad ⟨rfl,rfl,_,rfl,rfl,ar _ _⟩
       refine bu ?_ ?_
       ·intro wD E sD;refine aZ (bH dA rfl rfl yV (by decide) rfl rfl ?_);exact ad ⟨rfl,rfl,_,rfl,rfl,ar _ _⟩
       refine bu ?_ ?_
       ·intro wD E sD;refine aZ (aX bD rfl rfl rfl (cQ sD (by assumption)) rfl ?_);exact ad ⟨rfl,rfl,_,rfl,rfl,ar _ _⟩
       refine bu ?_ ?_
       ·intro wD E sD;refine ax (M:=M2) (A:=RT.po) (B:=RT.int .i64) bm rfl rfl I3 (by decide) (B6) rfl rfl (by decide) (by assumption) (by repeat (first|exact ao _ _|refine aV (br (by assumption)) ?_)) (fun abQ XN=>?_);exact ad ⟨rfl,rfl,_,rfl,by assumption,ar _ _⟩
       refine bu ?_ ?_
       ·intro wD E sD;intro v5 oN;refine b4 (M:=M2) ay rfl rfl (by assumption) (by repeat (first|exact ao _ _|refine aV (br (by assumption)) ?_)) (fun XO=>?_);exact ad ⟨rfl,rfl,_,rfl,rfl,ar _ _⟩
       refine bu ?_ ?_
       ·intro wD E sD;refine aX ay rfl rfl rfl (cQ sD (by assumption)) rfl ?_;exact ad ⟨rfl,rfl,_,rfl,rfl,ar _ _⟩
       refine bu ?_ ?_
       ·intro wD E sD;refine aZ (aZ (ic rfl rfl rfl (by omega) ?_));exact ad ⟨rfl,rfl,_,rfl,rfl,ar _ _⟩
       refine bu ?_ ?_
       ·intro wD E sD;refine aZ (ic rfl rfl rfl (by omega) (bI (v':= .int .i64 (((d-cO (-1) (l.take (i+j))-1).toNat:Nat):Int)) (by congr 1;omega) ?_));exact ad ⟨rfl,rfl,_,rfl,rfl,ar _ _⟩
       refine bu ?_ ?_
       ·intro wD E sD;refine aZ (aZ ?_);refine aT rfl rfl K7 (Gp (M:=M2) (sD.lt dD) (hB.le sD.le) (by omega) (by omega)) (fun rP wP hP=>?_);exact ad ⟨rfl,rfl,_,rfl,hP.2,hP.1⟩
       refine bu ?_ ?_
       ·intro wD E sD;refine aZ (aZ (aZ (aZ (aZ (aZ ?_)))));intro v5 oN;refine aZ (aZ (aZ (aZ ?_)));intro v10 Na;refine bZ rfl ⟨_,rfl⟩ rfl ?_;exact ad ⟨rfl,rfl,_,rfl,rfl,ar _ _⟩
       refine bu ?_ ?_
       ·intro wD E sD;refine aZ (aZ (aZ (aZ (aZ (aZ ?_)))));intro v5 oN;refine aZ (aZ (aZ (aZ ?_)));intro v10 Na;refine bH dA rfl rfl yV (by decide) rfl rfl ?_;exact ad ⟨rfl,rfl,_,rfl,rfl,ar _ _⟩
       exact cg.nil
      ·intro DA gA;refine aZ (aZ (aZ (aZ (aZ ?_))));intro abR XP;refine aZ (aZ (aZ (aZ ?_)));intro XQ Cv;refine aZ (aZ ?_);have h6:=h5.step gA;have hp6:=hp0.le (by decide) gA.le;refine cu (M:=M2) yV rfl rfl h6.x rfl (iZ Cv rfl rfl) h6.mx (fun w11 XR uw=>?_);refine ad ⟨rfl,?_⟩;have h7:=h6.MW uw XR (RT.V.le uw.le Cv) h6.hk;have Ow:=hp6.le (by decide) uw.le;refine ak ?_;have hO:=h7.o;have hX:=h7.x;have hB:=h7.hb;have dD:=h7.lt;have fbl:(dy (-1) (l.take (i+j))++put (d-cO (-1) (l.take (i+j))-1).toNat).length≤35184372088832:=by rw[ftk]at ftl;simp only[bO]at ftl ⊢;omega
       apply T.JB (M:=M2) mixed [(13,fun k=>k=bx)] [cH.eq _,cH.eq _,cH.eq _,cH.eq _,cH.eq _,cH.ptr ((RT.int .i64).sl) ps,cH.V ((RT.int .i64).sl) ps,⟨fun t w=>∃x,t= .tuple #[x,.int .i64 0]∧(RT.u8.sl).V M2 w (dy (-1) (l.take (i+j))++put (d-cO (-1) (l.take (i+j))-1).toNat++dM ps) x,CJ,fun⟨x,h1,h2⟩ s _=>⟨x,h1,h2.le s.le⟩⟩,⟨fun t w=>∃x,t= .tuple #[x,.int .i64 0]∧(RT.u8.sl).V M2 w (dy (-1) (l.take (i+j))++put (d-cO (-1) (l.take (i+j))-1).toNat++dM ps) x,CJ,fun⟨x,h1,h2⟩ s _=>⟨x,h1,h2.le s.le⟩⟩,cH.V (RT.u8.sl) (dy (-1) (l.take (i+j))++put (d-cO (-1) (l.take (i+j))-1).toNat++dM ps),cH.eq (.int .i64 0),cH.eq _,cH.eq _,⟨fun _ w=>∃x,w.heap[bx]? =some (.cells #[x,vk,.int .i64 (gG (l.take (i+j)))] 193 (0,0))∧(RT.u8.sl).V M2 w (dy (-1) (l.take (i+j))++put (d-cO (-1) (l.take (i+j))-1).toNat++dM ps) x,fun k=>k≠bx,fun⟨x,h1,h2⟩ s hN=>⟨x,s.bM h1 (fun hb=>hN _ hb rfl),h2.le s.le⟩⟩]
       ·rfl
       ·intro p hp b hb;simp only[cD]at hp;subst hp
        cases hb;exact h7.mx
       ·exact⟨fun _ _ _ _=>trivial,⟨fun _ _ _ _=>trivial,⟨fun _ _ _ _=>trivial,⟨fun _ _ _ _=>trivial,⟨fun _ _ _ _=>trivial,⟨fun _ _ _ _=>trivial,⟨fun _ _ _ _=>trivial,⟨fun _ _ _ _=>trivial,⟨fun _ _ _ _=>trivial,⟨fun _ _ _ _=>trivial,⟨fun _ _ _ _=>trivial,⟨fun _ _ _ _=>trivial,⟨fun _ _ _ _=>trivial,⟨fun p hp=>by simp at hp,trivial⟩⟩⟩⟩⟩⟩⟩⟩⟩⟩⟩⟩⟩⟩
       ·refine aY ?_ ?_
        ·intro wD E sD;replace sD:Step M2 _ M2 wD aD:=sD;refine aX dV rfl rfl rfl (cQ sD (by assumption)) rfl ?_;exact ad ⟨rfl,rfl,_,rfl,rfl,ar _ _⟩
        refine aY ?_ ?_
        ·intro wD E sD;replace sD:Step M2 _ M2 wD aD:=sD;refine aX dV rfl rfl rfl (cQ sD (by assumption)) rfl ?_;exact ad ⟨rfl,rfl,_,rfl,rfl,ar _ _⟩
        refine aY ?_ ?_
        ·intro wD E sD;replace sD:Step M2 _ M2 wD aD:=sD;refine aZ (bZ rfl ⟨_,rfl⟩ rfl ?_);exact ad ⟨rfl,rfl,_,rfl,rfl,ar _ _⟩
        refine aY ?_ ?_
        ·intro wD E sD;replace sD:Step M2 _ M2 wD aD:=sD;refine aZ (bH dA rfl rfl yV (by decide) rfl rfl ?_);exact ad ⟨rfl,rfl,_,rfl,rfl,ar _ _⟩
        refine aY ?_ ?_
        ·intro wD E sD;replace sD:Step M2 _ M2 wD aD:=sD;refine aZ (aX bD rfl rfl rfl (cQ sD (by assumption)) rfl ?_);exact ad ⟨rfl,rfl,_,rfl,rfl,ar _ _⟩
        refine aY ?_ ?_
        ·intro wD E sD;replace sD:Step M2 _ M2 wD aD:=sD;refine ax (M:=M2) (A:=RT.po) (B:=(RT.int .i64).sl) bm rfl rfl jE (by decide) H2 rfl rfl (by decide) Ow sD.le (fun uf nf=>?_);exact ad ⟨rfl,rfl,_,rfl,nf,ar _ _⟩
        refine aY ?_ ?_
        ·intro wD E sD;replace sD:Step M2 _ M2 wD aD:=sD;intro v5 oN;refine bw (M:=M2) au rfl rfl rfl rfl rfl (show cf ((RT.int .i64).sl) M2 wD v5 ps from oN) (ao _ _) (fun uf nf=>?_);exact ad ⟨rfl,rfl,_,rfl,nf,ar _ _⟩
        refine aY ?_ ?_
        ·intro wD E sD;replace sD:Step M2 _ M2 wD aD:=sD;refine aZ ?_;intro v6 pF;refine aT rfl rfl UW (ur (M:=M2) (sD.lt dD) (hB.le sD.le) (show((RT.int .i64).sl).V M2 wD ps v6 from pF) (by omega)) (fun rP wP hP=>?_);obtain⟨xP,sP,hP1,Rs⟩:=hP;rw[if_pos f7]at hP1 Rs;exact ad ⟨rfl,rfl,_,rfl,⟨xP,hP1,Rs⟩,sP⟩
        refine aY ?_ ?_
        ·intro wD E sD;replace sD:Step M2 _ M2 wD aD:=sD;intro v7 sy;refine ae rfl rfl ?_;exact ad ⟨rfl,rfl,_,rfl,sy,ar _ _⟩
        refine aY ?_ ?_
        ·intro wD E sD;replace sD:Step M2 _ M2 wD aD:=sD;intro v8 vQ;obtain⟨xP,rfl,Rs⟩:=vQ;refine bR rfl rfl rfl ?_;exact ad ⟨rfl,rfl,_,rfl,Rs,ar _ _⟩
        refine aY ?_ ?_
        ·intro wD E sD;replace sD:Step M2 _ M2 wD (fun k=>k=bx):=sD;intro v8 vQ;obtain⟨xP,rfl,Rs⟩:=vQ;refine bR rfl rfl rfl ?_;exact ad ⟨rfl,rfl,_,rfl,rfl,ar _ _⟩
        refine aY ?_ ?_
        ·intro wD E sD;replace sD:Step M2 _ M2 wD (fun k=>k=bx):=sD;refine aZ (aZ (aZ (aZ (aZ (aZ ?_)))));intro v5 oN;intro v6 pF;intro v7 sy;intro v8 vQ;intro v9 Az;refine bZ rfl ⟨_,rfl⟩ rfl ?_;exact ad ⟨rfl,rfl,_,rfl,rfl,ar _ _⟩
        refine aY ?_ ?_
        ·intro wD E sD;replace sD:Step M2 _ M2 wD aD:=sD;refine aZ (aZ (aZ (aZ (aZ (aZ ?_)))));intro v5 oN;intro v6 pF;intro v7 sy;intro v8 vQ;intro v9 Az;refine bH dA rfl rfl yV (by decide) rfl rfl ?_;exact ad ⟨rfl,rfl,_,rfl,rfl,ar _ _⟩
        refine aY ?_ ?_
        ·intro wD E sD;replace sD:Step M2 _ M2 wD aD:=sD;refine aZ ?_;intro v9 Az;intro v7 sy;refine aZ (aZ (aZ (aZ (aZ ?_))));intro v5 oN;intro v6 pF;intro v7 sy;intro v8 vQ;intro v9 Az;refine cu (M:=M2) yV rfl rfl (cQ sD hX) rfl (iZ (A:=RT.u8.sl) Az rfl rfl) h7.mx (fun wS hXS sS=>?_);exact ad ⟨rfl,rfl,undef,rfl,⟨_,hXS,RT.V.le (A:=RT.u8.sl) sS.le Az⟩,sS⟩
        exact cy.nil
       ·intro XS GC;replace GC:Step M2 _ M2 XS (fun k=>k=bx):=GC;refine aZ (aZ (aZ (aZ (aZ ?_))));intro abU XT;intro abV XU;intro abW XV;intro abX XW;intro abY XX;refine aZ (aZ (aZ ?_));intro XY I0;obtain⟨v12,XZ,X0⟩:=I0;have h8:=h7.MW GC XZ X0 h7.hk;have hp8:=Ow.le (by decide) GC.le;refine ak ?_;have hO:=h8.o;have hX:=h8.x;apply T.B2 (M:=M2) (n:=85) _ mixed [] [cH.eq _,cH.eq _,cH.eq _,cH.eq _,cH.ptr ((RT.int .i64).sl) ps,cH.V ((RT.int .i64).sl) ps,cH.eq (.int .i64 ps.length),cH.eq _,cH.eq _,cH.eq _]
        ·rfl
        ·rfl
        ·rfl
        ·rfl
        ·exact fun p hp=>by cases hp
        ·exact uV.none
        ·refine bu ?_ ?_
         ·intro wD E sD;refine aX dV rfl rfl rfl (cQ sD (by assumption)) rfl ?_;exact ad ⟨rfl,rfl,_,rfl,rfl,ar _ _⟩
         refine bu ?_ ?_
         ·intro wD E sD;refine aZ (bZ rfl ⟨_,rfl⟩ rfl ?_);exact ad ⟨rfl,rfl,_,rfl,rfl,ar _ _⟩
         refine bu ?_ ?_
         ·intro wD E sD;refine aZ (bH dA rfl rfl I3 (by decide) rfl rfl ?_);exact ad ⟨rfl,rfl,_,rfl,rfl,ar _ _⟩
         refine bu ?_ ?_
         ·intro wD E sD;refine aZ (aX ay rfl rfl rfl (cQ sD (by assumption)) rfl ?_);exact ad ⟨rfl,rfl,_,rfl,rfl,ar _ _⟩
         refine bu ?_ ?_
         ·intro wD E sD;refine ax (M:=M2) (A:=RT.po) (B:=(RT.int .i64).sl) bm rfl rfl jE (by decide) H2 rfl rfl (by decide) hp8 sD.le (fun uf nf=>?_);exact ad ⟨rfl,rfl,_,rfl,nf,ar _ _⟩
         refine bu ?_ ?_
         ·intro wD E sD;intro v4 nk;refine bw (M:=M2) au rfl rfl rfl rfl rfl (show cf ((RT.int .i64).sl) M2 wD v4 ps from nk) (ao _ _) (fun uf nf=>?_);exact ad ⟨rfl,rfl,_,rfl,nf,ar _ _⟩
         refine bu ?_ ?_
         ·intro wD E sD;intro v5 oN;refine bz au rfl (show((RT.int .i64).sl).V M2 wD ps v5 from oN) rfl ?_;exact ad ⟨rfl,rfl,_,rfl,rfl,ar _ _⟩
         refine bu ?_ ?_
         ·intro wD E sD;refine aZ (aZ (bE rfl rfl rfl (by omega) ?_));exact ad ⟨rfl,rfl,_,rfl,rfl,ar _ _⟩
         refine bu ?_ ?_
         ·intro wD E sD;refine aZ (aZ (aZ (aZ (aZ ?_))));intro v4 nk;intro v5 oN;refine aZ (aZ (bZ rfl ⟨_,rfl⟩ rfl ?_));exact ad ⟨rfl,rfl,_,rfl,rfl,ar _ _⟩
         refine bu ?_ ?_
         ·intro wD E sD;refine aZ (aZ (aZ (aZ (aZ ?_))));intro v4 nk;intro v5 oN;refine aZ (aZ (bH dA rfl rfl I3 (by decide) rfl rfl ?_));exact ad ⟨rfl,rfl,_,rfl,rfl,ar _ _⟩
         exact cg.nil
        ·intro LI mn;refine aZ (aZ (aZ (aZ ?_)));intro ab0 X1;intro JP xW;refine aZ (aZ (aZ (aZ ?_)));have h9:=h8.step mn;refine cu (M:=M2) I3 rfl rfl h9.x rfl rfl h9.mx (fun w13 X2 AB=>?_);refine ad ⟨rfl,?_⟩;have IN:=h9.MW AB X2 (h9.hb.le AB.le) h9.hk;have X3:=(hp8.le (by decide) mn.le).le (by decide) AB.le;refine aj ?_;refine ax (M:=M2) (A:=RT.po) (B:=RT.int .i64) bm rfl rfl I3 (by decide) B6 rfl rfl (by decide) X3 (ao _ _) (fun ab1 Nb=>?_);refine b4 (M:=M2) ay rfl rfl Nb (ao _ _) (fun _=>?_);refine bI (v':= .int .i64 d) rfl ?_;refine cu (M:=M2) I3 rfl rfl IN.l rfl rfl IN.ml (fun Qh X4 jG=>?_);have h11:=IN.IY jG X4;refine ad (aj (bE rfl rfl rfl (by omega) (ae rfl rfl (ad ?_))));refine⟨rfl,(j+1,v12),(.cons rfl (.cons rfl (.cons rfl (.cons rfl (.cons rfl (.cons rfl (.cons rfl .nil))))))),?_,?_⟩
         ·refine⟨by simp only;omega,?_,?_⟩
          ·exact jG.bM (AB.bM (mn.aN (GC.bM (uw.bM (gA.aN (Kf.aN hQ)) (by omega)) (by omega))) (by omega)) (by omega)
          ·simp only;rw[show i+(j+1)=i+j+1 from by omega,tp hx,f5,ftk];exact h11
         ·simp only;omega
     ·refine cK (ak (aj ?_));obtain rfl:j=((l.drop i).take 8).length:=by omega
      have OI:M2 bq:=by rw[Lz];exact .inl rfl
      refine aX ay rfl rfl rfl h4.l rfl (bH (o':=2) iy rfl rfl I3 (by decide) rfl rfl ?_);refine cu (M:=M2) I3 rfl rfl hQ rfl rfl OI (fun TH Rt I1=>?_);have OC:=h4.other I1 Uy TG;change TH.heap[bq]? =some (.cells [.int .i64 (dy (-1) (l.take i)).length,.int .i64 (cO (-1) (l.take i)),.int .i64 (cO (-1) (l.take (i+((l.drop i).take 8).length))),.int .i64 ((l.drop i).take 8).length].toArray 195 (0,0))at Rt;refine ad ?_;have hO:=OC.o;have hX:=OC.x;have I2:=OC.hk;have iu:∀k,vk.ownBlock=some k→k≠bo:=fun k hk=>by have:=(I2.base k hk).1;omega
      have afH:=al OC.r;have g1:=pj l (-1) lT (by omega) i;have g2:=pj l (-1) lT (by omega) (i+((l.drop i).take 8).length);have g3:=lp l i;apply T.B2 (M:=M2) (n:=85) _ mixed [(7,fun k=>vk.ownBlock=some k)] [cH.eq _,cH.eq _,cH.eq _,cH.eq _,cH.eq _,cH.eq (.agg [.int .i64 (dy (-1) (l.take i)).length,.int .i64 (cO (-1) (l.take i)),.int .i64 (cO (-1) (l.take (i+((l.drop i).take 8).length))),.int .i64 ((l.drop i).take 8).length].toArray),cH.V ((RT.bl).sl) [(((dy (-1) (l.take i)).length:Int),cO (-1) (l.take i),cO (-1) (l.take (i+((l.drop i).take 8).length)),(((l.drop i).take 8).length:Int))],⟨fun t w=>∃M3,Own RT.bl 195 M3 w (D+2) t (ll l ((i+7)/8)++[(((dy (-1) (l.take i)).length:Int),cO (-1) (l.take i),cO (-1) (l.take (i+((l.drop i).take 8).length)),(((l.drop i).take 8).length:Int))])∧Step M2 TH M3 w (fun k=>vk.ownBlock=some k),aD,fun⟨M3,h1,h2⟩ s hN=>⟨M3,h1.a7 ((s.b9 hN (fun _ h=>h.elim)).any M3),h2.aw ((s.b9 hN (fun _ h=>h.elim)).any M3)⟩⟩,cH.eq _,cH.eq _]
      ·rfl
      ·rfl
      ·rfl
      ·rfl
      ·intro p hp b hb;simp only[cD]at hp;subst hp;exact I2.mut_ b hb
      ·exact⟨fun _ _ _ _=>trivial,⟨fun _ _ _ _=>trivial,⟨fun _ _ _ _=>trivial,⟨fun _ _ _ _=>trivial,⟨fun _ _ _ _=>trivial,⟨fun _ _ _ _=>trivial,⟨fun _ _ _ _=>trivial,⟨fun p hp=>by simp at hp,⟨fun _ _ _ _=>trivial,⟨fun _ _ _ _=>trivial,trivial⟩⟩⟩⟩⟩⟩⟩⟩⟩⟩
      ·refine bu ?_ ?_
       ·intro wD E sD;replace sD:Step M2 _ M2 wD (fun k=>vk.ownBlock=some k):=sD;refine aX dV rfl rfl rfl (sD.bM hO (fun hb=>iu _ hb rfl)) rfl ?_;exact ad ⟨rfl,rfl,_,rfl,rfl,ar _ _⟩
       refine bu ?_ ?_
       ·intro wD E sD;replace sD:Step M2 _ M2 wD (fun k=>vk.ownBlock=some k):=sD;refine aX dV rfl rfl rfl (sD.bM hO (fun hb=>iu _ hb rfl)) rfl ?_;exact ad ⟨rfl,rfl,_,rfl,rfl,ar _ _⟩
       refine bu ?_ ?_
       ·intro wD E sD;replace sD:Step M2 _ M2 wD (fun k=>vk.ownBlock=some k):=sD;refine aZ (bZ rfl ⟨_,rfl⟩ rfl ?_);exact ad ⟨rfl,rfl,_,rfl,rfl,ar _ _⟩
       refine bu ?_ ?_
       ·intro wD E sD;replace sD:Step M2 _ M2 wD (fun k=>vk.ownBlock=some k):=sD;refine aZ (bH dA rfl rfl AS (by decide) rfl rfl ?_);exact ad ⟨rfl,rfl,_,rfl,rfl,ar _ _⟩
       refine bu ?_ ?_
       ·intro wD E sD;replace sD:Step M2 _ M2 wD aD:=sD;refine aZ (aX dJ rfl rfl rfl (cQ sD (by assumption)) rfl ?_);exact ad ⟨rfl,rfl,_,rfl,rfl,ar _ _⟩
       refine bu ?_ ?_
       ·intro wD E sD;replace sD:Step M2 _ M2 wD (fun k=>vk.ownBlock=some k):=sD;refine eX (vs:=[.int .i64 (dy (-1) (l.take i)).length,.int .i64 (cO (-1) (l.take i)),.int .i64 (cO (-1) (l.take (i+((l.drop i).take 8).length))),.int .i64 ((l.drop i).take 8).length]) iy rfl rW rfl rfl rfl (sD.bM Rt (fun hb=>TG _ hb rfl)) ?_;exact ad ⟨rfl,rfl,_,rfl,rfl,ar _ _⟩
       refine bu ?_ ?_
       ·intro wD E sD;replace sD:Step M2 _ M2 wD aD:=sD;refine aZ ?_;refine dQ (A:=RT.bl) (hn:=by decide) (M:=M2) dJ rW (by decide) rfl rfl (sD.lt OC.lt) (UC (by omega) (by omega) (by omega) (by omega)) (.inl rfl) (fun uS wS hS sS=>?_);exact ad ⟨rfl,rfl,_,rfl,hS,sS⟩
       refine bu ?_ ?_
       ·intro wD E sD;replace sD:Step M2 _ M2 wD aD:=sD;refine aZ ?_;intro v6 pF;refine ch (M:=M2) (base:=D+2) dJ rW rfl rfl rfl rfl (I2.a7 sD) (show((RT.bl).sl).V M2 wD [(((dy (-1) (l.take i)).length:Int),cO (-1) (l.take i),cO (-1) (l.take (i+((l.drop i).take 8).length)),(((l.drop i).take 8).length:Int))] v6 from pF) (ao _ _) (by simp[ll];omega) (by simp[ll];omega) (by have:=sD.size;omega) (fun v3 M3 w3 DD s3=>?_);exact ad ⟨rfl,rfl,_,rfl,⟨M3,DD,(sD.b9 (fun _ h=>h.elim) I2.mut_).trans s3 (fun b _ hb=>hb)⟩,s3.back⟩
       refine bu ?_ ?_
       ·intro wD E sD;replace sD:Step M2 _ M2 wD (fun k=>vk.ownBlock=some k):=sD;refine aZ (aZ (aZ (aZ (aZ (aZ (aZ ?_))))));intro v6 pF;intro v7 sy;refine bZ rfl ⟨_,rfl⟩ rfl ?_;exact ad ⟨rfl,rfl,_,rfl,rfl,ar _ _⟩
       refine bu ?_ ?_
       ·intro wD E sD;replace sD:Step M2 _ M2 wD (fun k=>vk.ownBlock=some k):=sD;refine aZ (aZ (aZ (aZ (aZ (aZ (aZ ?_))))));intro v6 pF;intro v7 sy;refine bH dA rfl rfl AS (by decide) rfl rfl ?_;exact ad ⟨rfl,rfl,_,rfl,rfl,ar _ _⟩
       exact cg.nil
      ·intro X5 Ru;replace Ru:Step M2 _ M2 X5 (fun k=>vk.ownBlock=some k):=Ru;refine aZ (aZ (aZ (aZ (aZ (aZ ?_)))));intro ab2 X6;intro ab3 Nc;refine aZ (aZ ?_);obtain⟨M3,DD,sR⟩:=Nc;obtain⟨⟨MO,X7,afI⟩,DT⟩:=OC.grow sR DD;refine cu (M:=M3) AS rfl rfl MO rfl (by obtain⟨_,_,he,_⟩:=DD.isSlice;rw[he];rfl) X7 (fun TL X8 HD=>?_);refine ad ⟨rfl,?_⟩;have MI:=DT HD X8;have h18:=MI.mv (st':= .loop (rec .ready none)) MI.r;have hE:i+((l.drop i).take 8).length=min (i+8) l.length:=by omega
       rw[hE,ED (by omega) hi]at h18;exact⟨MI.r,true,rfl,fun _=>⟨M3,_,_,h18,by omega,by omega⟩,fun h=>by cases h⟩
  ·obtain⟨Mz,vb,vk,h,_,_⟩:=h3.resolve_right (fun h=>h);left;rw[qx]at h;have h5:=h.mv (st':= .loop (rec .exhausted none)) h.r;refine⟨h.r,?_⟩;generalize w3.putObj (D+1) _=wE at h5 ⊢;refine ak (aj (aX dV rfl rfl rfl h5.o rfl (ah rfl rfl (ah rfl rfl (ad (aM ?_))))));obtain⟨q1,q2,q3,q4,q5,q6,q7,q8,q9,q10,q11,q12,q13,q14,q15,q16,q17,q18⟩:=h5.ne;have sZ:Step Mz wE Mz (wE.putObj D (.deferred none)) (fun k=>k=D):=dK h5.md;have SZ:=h5.S.cR sZ (fun k hk=>by subst hk;omega);have ht:=mc l;refine K1 rfl rfl rfl h5.d ⟨SZ.back,fun _=>⟨_,rfl,?_⟩,fun hf=>by rw[lT]at hf;cases hf⟩;exact Pb (sZ.bM h5.x (by omega)) (fun hh=>by have:=hM _ hh;omega) ((h5.hb.le sZ.le).le (Le.close hM SZ)) (ig hM SZ ((h5.hk.step sZ (fun k hk hh=>by have:=(h5.hk.base k hk).1;omega)).lj (by omega)) (by simp[ll];omega)) (by omega)
end Go.K
namespace Go.K
open Go.Proofs
namespace TKBldG
theorem jQ:TI Tryz.prog 107 (.slice none 0 0) 1 24:=by unfold TI;kernel_rfl
theorem Aa:TI Tryz.prog 188 (.slice none 0 0) 1 24:=by unfold TI;kernel_rfl
theorem Nd:Enters Tryz.prog 126:=enters Tryz.func126 rfl (by decide)
theorem X9:Enters Tryz.prog 175:=enters Tryz.func175 rfl (by decide)
end TKBldG
open TKBldG
set_option maxRecDepth 10000
theorem index_spec {M:aI} {l:List (List Po)} {v0:Value} {g:FuncId} {cap:List Value} {B:Nat} {J:Nat→aI→World→Prop} {bad:List Po→Bool} (w0:World) (hM:Lt M w0) (hv:(((RT.po).sl).sl).V M w0 l v0) (hg:Enters Tryz.prog g) (hJ:J 0 M w0) (jz:∀i M w M' w',J i M w→Step M w M' w' aD→J i M' w') (ht:∀i M w x vx,J i M w→Lt M w→l[i]? =some x→((RT.po).sl).V M w x vx→Spec Tryz.prog g ([vx]++cap).toArray w (fun v w'=>∃M',Lt M' w'∧v= .bool (bad x)∧(bad x=false→J (i+1) M' w')∧Step M w M' w' (jU M B))):
  Spec Tryz.prog 175 #[v0,.func (.func g) #[] cap.toArray] w0 (fun v w=>∃M' k,v= .int .i64 k∧ -1≤k∧Lt M' w∧Step M w0 M' w (jU M B)∧(k= -1→(∀x∈l,bad x=false)∧J l.length M' w)∧(0≤k→∃x∈l,bad x=true)):=by
 have hlen:=dd hv;refine bh (args:=[_,_]) (fn:=Tryz.f175) Tryz.func175 rfl (n:=19) Tryz.ntmps175 ?_;have S:Step M w0 M w0 (jU M B):=(ar _ _).b9 (fun _ h=>h.elim) (fun _ h=>h.2);refine ak (aj (ah rfl rfl (ad (ak (ak (aj (ae rfl rfl (bz bS rfl hv rfl (ae rfl rfl (ad (aW ?_)))))))))));refine cX (σ:=Nat) (fun q=>[(0,v0),(1,.func (.func g) #[] cap.toArray),(6,v0),(7,.int .i64 (l.length:Int)),(8,.int .i64 (q:Int))]) (fun q w=>∃M',Lt M' w∧Step M w0 M' w (jU M B)∧(((RT.po).sl).sl).V M' w l v0∧J q M' w∧q≤l.length∧∀x∈l.take q,bad x=false) (fun q=>l.length-q) 0 (.cons rfl (.cons rfl (.cons rfl (.cons rfl (.cons rfl .nil))))) ?_ ?_
 ·exact⟨M,hM,S,hv,hJ,bC _,fun x h=>by simp at h⟩
 ·clear hM S hv hJ;rintro i w ⟨M1,hM,S,hv,hJ,hi,jM⟩;refine ak (aj (cj rfl rfl rfl (ad (ak ?_))));refine bK rfl (fun c2=>?_) (fun c2=>?_)
  ·refine aU (ak (aW (ak (aj (ae rfl rfl (ah rfl rfl (ad (ak (aj (ae rfl rfl (ae rfl rfl ?_)))))))))));refine ae rfl rfl ?_;refine cb (M:=M1) bS jQ rfl rfl rfl hv (ao _ _) (by omega) (fun u x yw hu=>?_);rw[aB]at yw;refine bw (M:=M1) aR rfl rfl rfl rfl rfl hu (ao _ _) (fun vx rZ=>?_);refine Rg.oH (first:=[]) (captured:=cap) (xs:=[.tmp 15]) rfl rfl rfl hg (ht i _ _ x vx hJ hM yw rZ) (fun r4 w4 hc=>?_);obtain⟨M4,hM4,rfl,hJ4,s4⟩:=hc;refine bI (v':= .bool (decide (bad x=true))) (by simp) ?_;have S4:=S.trans s4 (fun k hk h=>⟨h.1,(S.mem k hk).1 h.2⟩);refine ad ?_;refine bK rfl (fun c4=>?_) (fun c4=>?_)
   ·refine ak (aj (ae rfl rfl (ah rfl rfl (ad (aM ?_)))));exact aS rfl rfl ⟨M4,_,rfl,by omega,hM4,S4,fun h=>absurd h (by omega),fun _=>⟨x,aH yw,c4⟩⟩
   ·refine aU (aj (bE rfl rfl rfl (by omega) (ae rfl rfl (ad ?_))));refine⟨rfl,i+1,(.cons rfl (.cons rfl (.cons rfl (.cons rfl (.cons rfl .nil))))),?_,?_⟩
    ·have hb:bad x=false:=by simpa using c4
     exact⟨M4,hM4,S4,hv.le s4.le,hJ4 hb,by omega,fun y hy=>by
      rw[bc,yw,bY,cY,cD]at hy;rcases hy with hy|rfl
      ·exact jM y hy
      ·exact hb⟩
    ·omega
  ·refine cK (ak (aj (ah rfl rfl (ad (aM ?_)))));rw[aK (by omega)]at jM;have e:i=l.length:=by omega
   subst e;exact aS rfl rfl ⟨_,_,rfl,by omega,hM,S,fun _=>⟨jM,hJ⟩,fun h=>absurd h (by omega)⟩
theorem vS {M:aI} {l:List (List Po)} {v0:Value} {g:FuncId} {cap:List Value} {B:Nat} {J:Nat→aI→World→Prop} {bad:List Po→Bool} (w0:World) (hM:Lt M w0) (hv:(((RT.po).sl).sl).V M w0 l v0) (hg:Enters Tryz.prog g) (hJ:J 0 M w0) (jz:∀i M w M' w',J i M w→Step M w M' w' aD→J i M' w') (ht:∀i M w x vx,J i M w→Lt M w→l[i]? =some x→((RT.po).sl).V M w x vx→Spec Tryz.prog g ([vx]++cap).toArray w (fun v w'=>∃M',Lt M' w'∧v= .bool (bad x)∧(bad x=false→J (i+1) M' w')∧Step M w M' w' (jU M B))):
  Spec Tryz.prog 127 #[v0,.func (.func g) #[] cap.toArray] w0 (fun v w=>∃M' k,v= .bool (decide (0≤k))∧ -1≤k∧Lt M' w∧Step M w0 M' w (jU M B)∧(k= -1→(∀x∈l,bad x=false)∧J l.length M' w)∧(0≤k→∃x∈l,bad x=true)):=by
 refine bh (args:=[_,_]) (fn:=Tryz.f127) Tryz.func127 rfl (n:=9) Tryz.ntmps127 (ak (aj (ah rfl rfl (ad (ak (aj (ae rfl rfl (ae rfl rfl ?_))))))));refine aT rfl rfl X9 (index_spec w0 hM hv hg hJ jz ht) (fun r w1 hc=>?_);obtain⟨M1,k,rfl,hk,h2⟩:=hc;refine dN rfl rfl rfl (ah rfl rfl (ad (aM ?_)));exact aS rfl rfl ⟨M1,k,rfl,hk,h2⟩
def Ab (x:List Po):Int:=match x.getLast? with|some p=>p.1|none=> -1
def ly (n:Int) (x:List Po):Bool:= !eR (-1) x||x.isEmpty||decide (n≤Ab x)
theorem Ac {x:List Po} {p:Po} (h:x[x.length-1]? =some p):Ab x=p.1:=by
 unfold Ab;rw[List.getLast?_eq_getElem?,h]
structure Room (x:List Po):Prop where
 ps:∀p∈x,p.2.length≤1099511627776
 by_:(dy (-1) x).length≤35184372088832
 ln:x.length≤1099511627776
 tot:gG x≤4611686018427387904
def RT.cell:RT Value where
 n:=1
 agg:=false
 R:=fun _ _ x vs=>vs=[x]∧x.oneCell'=true
 len:=by rintro _ _ x vs ⟨rfl,_⟩;rfl
 one:=by rintro _ _ x vs ⟨rfl,h⟩ v hv;simp at hv;subst hv;exact h
 le:=fun _ h=>h
theorem I4 {M:aI} {w:World} {v:Value} (h:v.oneCell'=true):RT.cell.V M w v v:=⟨[v],⟨rfl,h⟩,rfl⟩
theorem eK.cells {α:Type} {A:RT α} (hA:A.n=1) {M:aI} {w:World}:∀{xs:List α} {C:List Value},eK A M w xs C→∃ys:List Value,eK RT.cell M w ys C∧ys.length=xs.length
 |[],C,h=>⟨[],h,rfl⟩
 |x::xs,C,h=>by
  obtain⟨vs,r,h1,h2,h3⟩:=h;obtain⟨ys,h4,h5⟩:=eK.cells hA h3;have hl:=A.len h2
  match vs,hl,h1,h2 with
  |[v],_,h1,h2=>exact⟨v::ys,⟨[v],r,h1,⟨rfl,A.one h2 v (by simp)⟩,h4⟩,by simp[h5]⟩
  |[],hl,_,_=>simp at hl;omega
  |_::_::_,hl,_,_=>simp at hl;omega
theorem Own.cells {α:Type} {A:RT α} (hA:A.n=1) {e:TypeId} {M:aI} {w:World} {base:Nat} {v:Value} {xs:List α} (h:Own A e M w base v xs):∃ys:List Value,Own RT.cell e M w base v ys∧ys.length=xs.length:=by
 obtain⟨⟨C,hr,ha⟩,hm⟩:=h;obtain⟨ys,h1,h2⟩:=ha.cells hA;exact⟨ys,⟨⟨C,by rw[h2,show RT.cell.n=A.n from hA.symm];exact hr,h1⟩,hm⟩,h2⟩
def vT (bl bn:Nat) (n:Int) (ls:List (List Po)) (B:Nat) (i:Nat) (M:aI) (w:World):Prop:=∃vl,w.heap[bl]? =some (.cells #[vl] 188 (0,0))∧M bl∧B≤bl∧w.heap[bn]? =some (.cells #[.int .i64 n] 3 (0,0))∧M bn∧Own ((RT.li).ptr) 129 M w B vl ((ls.take i).map kP)
theorem vT.a7 {bl bn:Nat} {n:Int} {ls:List (List Po)} {B i:Nat} {M M':aI} {w w':World} (h:vT bl bn n ls B i M w) (s:Step M w M' w' aD):vT bl bn n ls B i M' w':=by
 obtain⟨vl,h1,h2,h3,h4,h5,h6⟩:=h;exact⟨vl,s.aN h1,(s.mem _ (al h1)).2 h2,h3,s.aN h4,(s.mem _ (al h4)).2 h5,h6.a7 s⟩
theorem Nf {M:aI} {bl bn B i:Nat} {n:Int} {ls:List (List Po)} {x:List Po} {v0:Value} (w0:World) (hM:Lt M w0) (hB:B≤w0.heap.size) (hJ:vT bl bn n ls B i M w0) (hx:ls[i]? =some x) (hv:((RT.po).sl).V M w0 x v0) (hr:Room x) (mM:i≤1000000000) (hm:eR (-1) x=true):
  Spec Tryz.prog 125 #[v0,.pointer (some ⟨bl,0,none⟩),.pointer (some ⟨bn,0,none⟩)] w0 (fun v w=>∃M',Lt M' w∧v= .bool (ly n x)∧(ly n x=false→vT bl bn n ls B (i+1) M' w)∧Step M w0 M' w (jU M B)):=by
 have hlen:=dd hv;obtain⟨vl,gl,jr,Ya,gn,kG,ho⟩:=hJ;have nln:bl≠bn:=fun h=>by rw[h,gn]at gl;simp at gl
 refine bh (args:=[_,_,_]) (fn:=Tryz.f125) Tryz.func125 rfl (n:=34) Tryz.ntmps125 ?_;have S:Step M w0 M w0 (jU M B):=(ar _ _).b9 (fun _ h=>h.elim) (fun _ h=>h.2);refine ak (aj (ah rfl rfl (ad (ak (aj (ae rfl rfl ?_))))));refine aT rfl rfl Nd (xf hM hv hr.ps hr.by_ hr.ln hr.tot) (fun r1 w1 hc=>?_);obtain⟨s1,hok,jM⟩:=hc;obtain⟨p,rfl,hp⟩:=hok hm;have:=al gl;replace jr:=(s1.mem _ this).2 jr;replace gl:=s1.aN gl;have:=al gn;replace kG:=(s1.mem _ this).2 kG;replace gn:=s1.aN gn;replace hv:=hv.le s1.le;replace ho:=ho.a7 s1;replace hM:=s1.lt hM;have:=S.size;replace S:=S.aw s1;refine ae rfl rfl (bR rfl rfl rfl (bR rfl rfl rfl (ah rfl rfl (ah rfl rfl (ad (ak (aj (aX dz rfl rfl rfl gl rfl (bI (v':=vl) rfl (ae rfl rfl ?_))))))))));refine dQ (A:=((RT.li).ptr)) (hn:=by decide) (M:=M) dz vE (by decide) rfl rfl hM (rE.2 hp) (.inr ⟨rfl,rfl⟩) (fun MM Yb jd ng=>?_);have:=al gl;replace jr:=(ng.mem _ this).2 jr;replace gl:=ng.aN gl;have:=al gn;replace kG:=(ng.mem _ this).2 kG;replace gn:=ng.aN gn;replace hv:=hv.le ng.le;replace hp:=hp.le (by decide) ng.le;replace ho:=ho.a7 ng;replace hM:=ng.lt hM;have:=S.size;replace S:=S.aw ng;refine ch (M:=M) (base:=B) dz vE rfl rfl rfl rfl ho jd (ao _ _) (by simp;omega) (by simp;omega) (by have:=S.size;omega) (fun Ng Ad Yc GD nh=>?_);have:=al gl;replace jr:=(nh.mem _ this).2 jr;replace gl:=nh.bM gl (fun h=>by first|exact ho.dE gl h|exact ho.ep gl (by decide) h|(have:=(ho.base _ h).1;omega));have:=al gn;replace kG:=(nh.mem _ this).2 kG;replace gn:=nh.bM gn (fun h=>by first|exact ho.dE gn h|exact ho.ep gn (by decide) h|(have:=(ho.base _ h).1;omega));replace hv:=hv.le nh.le;replace hp:=hp.le (by decide) nh.le
 replace jd:=jd.le nh.le;replace hM:=nh.lt hM;have:=S.size;replace S:=S.trans nh (fun k hk h=>⟨(ho.base k h).1,(S.mem k hk).1 (ho.mut_ k h)⟩);replace ho:=GD;refine cu (M:=Ad) Aa rfl rfl gl rfl (by obtain⟨_,_,he,_⟩:=ho.isSlice;rw[he];rfl) jr (fun I6 GF jR=>?_);change I6.heap[_]? =some (Obj.cells #[Ng] _ _)at GF;have:=al gl;replace jr:=(jR.mem _ this).2 jr;have:=al gn;replace kG:=(jR.mem _ this).2 kG;replace gn:=jR.bM gn (fun hk=>by have hk:_=_:=hk;omega);replace hv:=hv.le jR.le;replace hp:=hp.le (by decide) jR.le;replace jd:=jd.le jR.le;replace ho:=ho.step jR (fun c hc (h:c=bl)=>ho.ep gl (by decide) (h▸hc));replace hM:=jR.lt hM;have:=S.size;replace S:=S.trans jR (fun k hk h=>by have h:_=_:=h;subst h;first|(exfalso;omega)|(show _≤_;omega)|exact⟨by first|omega|assumption,(S.mem _ hk).1 ((jR.mem _ (al gl)).1 jr)⟩|exact .inl rfl|exact .inr rfl|exact .inr (.inl rfl)|exact .inr (.inr rfl)|exact rfl);have Rv:=GF;clear gl;have gl:=Rv;clear Rv;refine ad (ak ?_);apply jK mixed rfl rfl;intro PG JI;have oa:=JI Ad;have:=al gl;replace jr:=(oa.mem _ this).2 jr;replace gl:=oa.aN gl;have:=al gn;replace kG:=(oa.mem _ this).2 kG;replace gn:=oa.aN gn;replace hv:=hv.le oa.le;replace hp:=hp.le (by decide) oa.le;replace jd:=jd.le oa.le;replace ho:=ho.a7 oa;replace hM:=oa.lt hM;have:=S.size;replace S:=S.aw oa;refine ae rfl rfl ?_;refine ad ⟨rfl,rfl,rfl,?_⟩;refine dW rfl rfl rfl ?_;refine ad ⟨rfl,rfl,rfl,?_⟩;refine ae rfl rfl ?_;refine ad ⟨rfl,rfl,rfl,?_⟩;refine Rg.xv (g:=18) rfl ((by decide)) (an rfl rfl (ae rfl rfl ?_));refine ad ⟨rfl,rfl,rfl,?_⟩;refine an rfl rfl (bz aR rfl hv rfl ?_);refine ad ⟨rfl,rfl,rfl,?_⟩;refine an rfl rfl (rT rfl rfl rfl ?_);refine ad ⟨rfl,rfl,rfl,?_⟩;refine aE rfl rfl rfl ?_;refine ad ⟨rfl,rfl,rfl,?_⟩
 refine ae rfl rfl ?_;refine ad ⟨rfl,rfl,rfl,?_⟩;refine aL (g:=23) rfl (fun Nh=>?_) (fun Nh=>?_)
 ·refine aq rfl rfl rfl rfl ?_;refine ad ⟨rfl,rfl,rfl,?_⟩;refine aq rfl rfl rfl rfl ?_;refine ad ⟨rfl,rfl,rfl,?_⟩;refine aq rfl rfl rfl rfl ?_;refine ad ⟨rfl,rfl,rfl,?_⟩;refine aq rfl rfl rfl rfl ?_;refine ad ⟨rfl,rfl,rfl,?_⟩;refine aq rfl rfl rfl rfl ?_;refine ad ⟨rfl,rfl,rfl,?_⟩;refine aq rfl rfl rfl rfl ?_;refine ad ⟨rfl,rfl,rfl,?_⟩;refine aq rfl rfl rfl rfl ?_;refine ad ⟨rfl,rfl,rfl,?_⟩;refine aq rfl rfl rfl rfl ?_;refine ad ⟨rfl,rfl,rfl,?_⟩;refine aq rfl rfl rfl rfl ?_;refine ad ⟨rfl,rfl,rfl,?_⟩;refine aP rfl rfl rfl ?_;refine ad ⟨rfl,rfl,rfl,?_⟩;refine ah rfl rfl ?_;refine ad ⟨rfl,rfl,rfl,?_⟩;refine dr (aM ?_)
  first
  |(have Rw:ly n x=true:=by
     have:x=[]:=gr.1 (by omega);simp[ly,this]
    rw[Rw];exact aS rfl rfl ⟨_,hM,rfl,(fun h=>by cases h),S⟩)
  |(have eE:x.isEmpty=false:=by cases x with
     |nil=>simp at Nh
     |cons a t=>rfl
    have Yd:ly n x=decide (n≤q.1):=by unfold ly;rw[hm,eE,Ac hq];rfl
    rw[Yd];exact aS rfl rfl ⟨_,hM,rfl,fun _=>⟨_,gl,jr,Ya,gn,kG,by rw[bc,hx,bY,dF];exact ho⟩,S⟩)
 ·refine an rfl rfl (ae rfl rfl ?_);refine ad ⟨rfl,rfl,rfl,?_⟩;refine an rfl rfl (ae rfl rfl ?_);refine ad ⟨rfl,rfl,rfl,?_⟩;refine an rfl rfl (bz aR rfl hv rfl ?_);refine ad ⟨rfl,rfl,rfl,?_⟩;refine an rfl rfl (ic rfl rfl rfl (by omega) ?_);refine ad ⟨rfl,rfl,rfl,?_⟩;refine an rfl rfl ?_;obtain⟨q,hq⟩:∃q,x[x.length-1]? =some q:=⟨_,aF (by omega)⟩;refine cb (M:=Ad) aR eN rfl rfl rfl hv (ao _ _) (by omega) (fun u3 a HA gy=>?_);obtain rfl:q=a:=aQ (hq.symm.trans (by rw[show((x.length:Int)-1).toNat=x.length-1 from by omega]at HA;exact HA));refine ad ⟨rfl,rfl,rfl,?_⟩;refine an rfl rfl ?_;refine ax (M:=Ad) (A:=RT.po) (B:=RT.int .i64) bm rfl rfl I3 (by decide) (B6) rfl rfl (by decide) (by assumption) (by repeat (first|exact ao _ _|refine aV (br (by assumption)) ?_)) (fun ab6 Ye=>?_);refine ad ⟨rfl,rfl,rfl,?_⟩;refine an rfl rfl ?_;refine b4 (M:=Ad) ay rfl rfl (by assumption) (by repeat (first|exact ao _ _|refine aV (br (by assumption)) ?_)) (fun GG=>?_);refine bI (v':= .int .i64 (q.1)) rfl ?_;replace GG: -9223372036854775808≤(q.1:Int)∧q.1≤9223372036854775807:=GG;refine ad ⟨rfl,rfl,rfl,?_⟩;refine an rfl rfl (aX ay rfl rfl rfl gn rfl (bI (v':= .int .i64 n) rfl ?_));refine ad ⟨rfl,rfl,rfl,?_⟩;refine an rfl rfl (dN rfl rfl rfl ?_);refine ad ⟨rfl,rfl,rfl,?_⟩;refine aE rfl rfl rfl ?_;refine ad ⟨rfl,rfl,rfl,?_⟩;refine ah rfl rfl ?_;refine ad ⟨rfl,rfl,rfl,?_⟩;refine dr (aM ?_)
  first
  |(have Rw:ly n x=true:=by
     have:x=[]:=gr.1 (by omega);simp[ly,this]
    rw[Rw];exact aS rfl rfl ⟨_,hM,rfl,(fun h=>by cases h),S⟩)
  |(have eE:x.isEmpty=false:=by cases x with
     |nil=>simp at Nh
     |cons a t=>rfl
    have Yd:ly n x=decide (n≤q.1):=by unfold ly;rw[hm,eE,Ac hq];rfl
    rw[Yd];exact aS rfl rfl ⟨_,hM,rfl,fun _=>⟨_,gl,jr,Ya,gn,kG,by rw[bc,hx,bY,dF];exact ho⟩,S⟩)
theorem I7 {M:aI} {bl bn B i:Nat} {n:Int} {ls:List (List Po)} {x:List Po} {v0:Value} (w0:World) (hM:Lt M w0) (hB:B≤w0.heap.size) (hJ:vT bl bn n ls B i M w0) (hx:ls[i]? =some x) (hv:((RT.po).sl).V M w0 x v0) (hr:Room x) (mM:i≤1000000000) (hm:eR (-1) x=false):
  Spec Tryz.prog 125 #[v0,.pointer (some ⟨bl,0,none⟩),.pointer (some ⟨bn,0,none⟩)] w0 (fun v w=>∃M',Lt M' w∧v= .bool (ly n x)∧(ly n x=false→vT bl bn n ls B (i+1) M' w)∧Step M w0 M' w (jU M B)):=by
 have hlen:=dd hv;obtain⟨vl,gl,jr,Ya,gn,kG,ho0⟩:=hJ;have nln:bl≠bn:=fun h=>by rw[h,gn]at gl;simp at gl
 obtain⟨ys,ho,Ob⟩:=ho0.cells rfl;rw[cx,bF]at Ob;clear ho0;refine bh (args:=[_,_,_]) (fn:=Tryz.f125) Tryz.func125 rfl (n:=34) Tryz.ntmps125 ?_;have S:Step M w0 M w0 (jU M B):=(ar _ _).b9 (fun _ h=>h.elim) (fun _ h=>h.2);refine ak (aj (ah rfl rfl (ad (ak (aj (ae rfl rfl ?_))))));refine aT rfl rfl Nd (xf hM hv hr.ps hr.by_ hr.ln hr.tot) (fun r1 w1 hc=>?_);obtain⟨s1,hok,jM⟩:=hc;obtain rfl:=jM hm;have:=al gl;replace jr:=(s1.mem _ this).2 jr;replace gl:=s1.aN gl;have:=al gn;replace kG:=(s1.mem _ this).2 kG;replace gn:=s1.aN gn;replace hv:=hv.le s1.le;replace ho:=ho.a7 s1;replace hM:=s1.lt hM;have:=S.size;replace S:=S.aw s1;refine ae rfl rfl (bR rfl rfl rfl (bR rfl rfl rfl (ah rfl rfl (ah rfl rfl (ad (ak (aj (aX dz rfl rfl rfl gl rfl (bI (v':=vl) rfl (ae rfl rfl ?_))))))))));refine dQ (A:=RT.cell) (hn:=by decide) (M:=M) dz vE (by decide) rfl rfl hM (I4 (v:= .pointer none) rfl) (.inr ⟨rfl,rfl⟩) (fun MM Yb jd ng=>?_);have:=al gl;replace jr:=(ng.mem _ this).2 jr;replace gl:=ng.aN gl;have:=al gn;replace kG:=(ng.mem _ this).2 kG;replace gn:=ng.aN gn;replace hv:=hv.le ng.le;replace ho:=ho.a7 ng;replace hM:=ng.lt hM;have:=S.size;replace S:=S.aw ng;refine ch (M:=M) (base:=B) dz vE rfl rfl rfl rfl ho jd (ao _ _) (by simp;omega) (by simp;omega) (by have:=S.size;omega) (fun Ng Ad Yc GD nh=>?_);have:=al gl;replace jr:=(nh.mem _ this).2 jr;replace gl:=nh.bM gl (fun h=>by first|exact ho.dE gl h|exact ho.ep gl (by decide) h|(have:=(ho.base _ h).1;omega));have:=al gn;replace kG:=(nh.mem _ this).2 kG;replace gn:=nh.bM gn (fun h=>by first|exact ho.dE gn h|exact ho.ep gn (by decide) h|(have:=(ho.base _ h).1;omega))
 replace hv:=hv.le nh.le;replace jd:=jd.le nh.le;replace hM:=nh.lt hM;have:=S.size;replace S:=S.trans nh (fun k hk h=>⟨(ho.base k h).1,(S.mem k hk).1 (ho.mut_ k h)⟩);replace ho:=GD;refine cu (M:=Ad) Aa rfl rfl gl rfl (by obtain⟨_,_,he,_⟩:=ho.isSlice;rw[he];rfl) jr (fun I6 GF jR=>?_);change I6.heap[_]? =some (Obj.cells #[Ng] _ _)at GF;have:=al gl;replace jr:=(jR.mem _ this).2 jr;have:=al gn;replace kG:=(jR.mem _ this).2 kG;replace gn:=jR.bM gn (fun hk=>by have hk:_=_:=hk;omega);replace hv:=hv.le jR.le;replace jd:=jd.le jR.le;replace ho:=ho.step jR (fun c hc (h:c=bl)=>ho.ep gl (by decide) (h▸hc));replace hM:=jR.lt hM;have:=S.size;replace S:=S.trans jR (fun k hk h=>by have h:_=_:=h;subst h;first|(exfalso;omega)|(show _≤_;omega)|exact⟨by first|omega|assumption,(S.mem _ hk).1 ((jR.mem _ (al gl)).1 jr)⟩|exact .inl rfl|exact .inr rfl|exact .inr (.inl rfl)|exact .inr (.inr rfl)|exact rfl);have Rv:=GF;clear gl;have gl:=Rv;clear Rv;refine ad (ak ?_);apply jK mixed rfl rfl;intro PG JI;have oa:=JI Ad;have:=al gl;replace jr:=(oa.mem _ this).2 jr;replace gl:=oa.aN gl;have:=al gn;replace kG:=(oa.mem _ this).2 kG;replace gn:=oa.aN gn;replace hv:=hv.le oa.le;replace jd:=jd.le oa.le;replace ho:=ho.a7 oa;replace hM:=oa.lt hM;have:=S.size;replace S:=S.aw oa;refine ae rfl rfl ?_;refine ad ⟨rfl,rfl,rfl,?_⟩;refine dW rfl rfl rfl ?_;refine ad ⟨rfl,rfl,rfl,?_⟩;refine ae rfl rfl ?_;refine ad ⟨rfl,rfl,rfl,?_⟩;refine Rg.sN (g:=18) rfl ((by decide)) (aq rfl rfl rfl rfl ?_);refine ad ⟨rfl,rfl,rfl,?_⟩;refine aq rfl rfl rfl rfl ?_;refine ad ⟨rfl,rfl,rfl,?_⟩;refine aq rfl rfl rfl rfl ?_;refine ad ⟨rfl,rfl,rfl,?_⟩;refine aP rfl rfl rfl ?_;refine ad ⟨rfl,rfl,rfl,?_⟩;refine ae rfl rfl ?_;refine ad ⟨rfl,rfl,rfl,?_⟩;refine aq rfl rfl rfl rfl ?_;refine ad ⟨rfl,rfl,rfl,?_⟩
 refine aq rfl rfl rfl rfl ?_;refine ad ⟨rfl,rfl,rfl,?_⟩;refine aq rfl rfl rfl rfl ?_;refine ad ⟨rfl,rfl,rfl,?_⟩;refine aq rfl rfl rfl rfl ?_;refine ad ⟨rfl,rfl,rfl,?_⟩;refine aq rfl rfl rfl rfl ?_;refine ad ⟨rfl,rfl,rfl,?_⟩;refine aq rfl rfl rfl rfl ?_;refine ad ⟨rfl,rfl,rfl,?_⟩;refine aq rfl rfl rfl rfl ?_;refine ad ⟨rfl,rfl,rfl,?_⟩;refine aq rfl rfl rfl rfl ?_;refine ad ⟨rfl,rfl,rfl,?_⟩;refine aq rfl rfl rfl rfl ?_;refine ad ⟨rfl,rfl,rfl,?_⟩;refine aP rfl rfl rfl ?_;refine ad ⟨rfl,rfl,rfl,?_⟩;refine ah rfl rfl ?_;refine ad ⟨rfl,rfl,rfl,?_⟩;refine dr (aM ?_);have Rw:ly n x=true:=by simp[ly,hm]
 rw[Rw];exact aS rfl rfl ⟨_,hM,rfl,(fun h=>by cases h),S⟩
theorem GH {M:aI} {bl bn B i:Nat} {n:Int} {ls:List (List Po)} {x:List Po} {v0:Value} (w0:World) (hM:Lt M w0) (hB:B≤w0.heap.size) (hJ:vT bl bn n ls B i M w0) (hx:ls[i]? =some x) (hv:((RT.po).sl).V M w0 x v0) (hr:Room x) (mM:i≤1000000000):
  Spec Tryz.prog 125 #[v0,.pointer (some ⟨bl,0,none⟩),.pointer (some ⟨bn,0,none⟩)] w0 (fun v w=>∃M',Lt M' w∧v= .bool (ly n x)∧(ly n x=false→vT bl bn n ls B (i+1) M' w)∧Step M w0 M' w (jU M B)):=by
 cases hm:eR (-1) x with
 |true=>exact Nf w0 hM hB hJ hx hv hr mM hm
 |false=>exact I7 w0 hM hB hJ hx hv hr mM hm
end Go.K
namespace Go.K
open Go.Proofs
namespace TKBldH
theorem si:TI Tryz.prog 56 (.slice none 0 0) 1 24:=by unfold TI;kernel_rfl
theorem Ae:TI Tryz.prog 58 (.agg #[(.slice none 0 0),(.slice none 0 0),(.slice none 0 0),(.slice none 0 0)]) 4 96:=by unfold TI;kernel_rfl
theorem Yf:TI Tryz.prog 125 (.agg #[(.slice none 0 0),(.slice none 0 0),(.pointer none)]) 3 56:=by unfold TI;kernel_rfl
theorem Aa:TI Tryz.prog 188 (.slice none 0 0) 1 24:=by unfold TI;kernel_rfl
theorem Yg:placesOf Tryz.prog 125=[(0,1),(1,1),(2,1)].map some:=by kernel_rfl
theorem MF:Enters Tryz.prog 63:=enters Tryz.func63 rfl (by decide)
theorem E76:Enters Tryz.prog 76:=enters Tryz.func76 rfl (by decide)
theorem Yh:Enters Tryz.prog 124:=enters Tryz.func124 rfl (by decide)
theorem Yi:Enters Tryz.prog 125:=enters Tryz.func125 rfl (by decide)
theorem Yj:Enters Tryz.prog 127:=enters Tryz.func127 rfl (by decide)
theorem Yk:Enters Tryz.prog 128:=enters Tryz.func128 rfl (by decide)
end TKBldH
open TKBldH
set_option maxRecDepth 10000
def uZ (p:Pa):Bool:=decide (p.1.length=p.2.1.length)&&eG (-1) p.2.1&&p.2.2.2.all (fun x=> !ly (p.1.length:Int) x)&&decide (p.2.2.1.length=p.2.2.2.length)&&zR none p.2.2.1
def I8 (p:Pa):Se:=(p.1,p.2.1,p.2.2.1,p.2.2.2.map kP)
structure GI (p:Pa):Prop where
 a:p.1.length≤1000000000
 b:p.2.1.length≤1000000000
 c:p.2.2.1.length≤1000000000
 d:p.2.2.2.length≤1000000000
 e:∀x∈p.2.2.2,Room x
theorem BB {M:aI} {p:Pa} {v0:Value} (w0:World) (hM:Lt M w0) (hv:RT.pa.V M w0 p v0) (hR:GI p):
  Spec Tryz.prog 76 #[v0] w0 (fun v w=>Step M w0 M w aD∧(uZ p=true→cf RT.se M w v (I8 p))∧(uZ p=false→v= .pointer none)):=by
 have fR:=hM;obtain⟨hRa,hRb,hRc,hRd,hRe⟩:=hR;refine bh (args:=[_]) (fn:=Tryz.f76) Tryz.func76 rfl (n:=45) Tryz.ntmps76 ?_;have S:Step M w0 M w0 aD:=(ar _ _).b9 (fun _ h=>h.elim) (fun _ h=>h.elim);refine ak (aj ?_);refine gp (A:=RT.pa) rfl rfl hM hv rfl (fun u0 w1 cG s0 _=>?_);replace hM:=s0.lt hM;have:=S.size;replace S:=S.aw s0;refine ah rfl rfl (ad (ak (aj ?_)));refine ax (M:=M) (A:=RT.pa) (B:=(RT.int .i64).sl) bL rfl rfl jE (by decide) (Ty) rfl rfl (by decide) (by assumption) (by repeat (first|exact ao _ _|refine aV (br (by assumption)) ?_)) (fun tP jc=>?_);refine bw (M:=M) au rfl rfl rfl rfl rfl (by assumption) (by repeat (first|exact ao _ _|refine aV (br (by assumption)) ?_)) (fun vF k4=>?_);replace k4:((RT.int .i64).sl).V M _ p.1 vF:=k4;refine bz au rfl k4 rfl ?_;refine dL M I3 rfl (fun sc Db Wb Wc kS s1_3=>?_);obtain⟨k5,tR⟩:∃M',M'=ins M sc:=⟨_,rfl⟩;rw[←tR]at s1_3;have iA:k5 sc:=by rw[tR];exact .inl rfl
 change Db.heap[sc]? =some (.cells #[.int .i64 0] _ _)at kS;replace cG:=cG.le (by decide) s1_3.le;replace hM:=s1_3.lt hM;have:=S.size;replace S:=S.aw s1_3;refine cu (M:=k5) I3 rfl rfl kS rfl (rfl) iA (fun Ls Rx ku=>?_);change Ls.heap[_]? =some (Obj.cells #[.int .i64 (p.1.length:Int)] _ _)at Rx;have:=al kS;replace iA:=(ku.mem _ this).2 iA;replace cG:=cG.le (by decide) ku.le;replace hM:=ku.lt hM;have:=S.size;replace S:=S.trans ku (fun k hk h=>by have h:_=_:=h;subst h;first|(exfalso;omega)|(show _≤_;omega)|exact⟨by first|omega|assumption,(S.mem _ hk).1 ((ku.mem _ (al kS)).1 iA)⟩|exact .inl rfl|exact .inr rfl|exact .inr (.inl rfl)|exact .inr (.inr rfl)|exact rfl);have zi:=Rx;clear kS;have kS:=zi;clear zi;refine ad (ak (ak (aj ?_)));refine ax (M:=k5) (A:=RT.pa) (B:=(RT.int .i64).sl) bL rfl rfl jE (by decide) (Qz) rfl rfl (by decide) (by assumption) (by repeat (first|exact ao _ _|refine aV (br (by assumption)) ?_)) (fun afN ab8=>?_);refine bw (M:=k5) au rfl rfl rfl rfl rfl (by assumption) (by repeat (first|exact ao _ _|refine aV (br (by assumption)) ?_)) (fun Yl GK=>?_);replace GK:((RT.int .i64).sl).V k5 _ p.2.1 Yl:=GK;refine bz au rfl GK rfl (aX ay rfl rfl rfl kS rfl (bI (v':= .int .i64 (p.1.length:Int)) rfl (dW rfl rfl rfl (ae rfl rfl ?_))));refine aL (g:=16) rfl (fun Ym=>?_) (fun Ym=>?_)
 ·refine aq rfl rfl rfl rfl (aq rfl rfl rfl rfl (aq rfl rfl rfl rfl (aq rfl rfl rfl rfl (aP rfl rfl rfl (ad (jH rfl (ak (aj (ah rfl rfl (ad (aM ?_)))))))))))
  have eb:uZ p=false:=by
   unfold uZ
   first
   |(rw[decide_eq_false (show¬p.1.length=p.2.1.length by omega)];simp;done)
   |(simp[c2];done)
  exact aS rfl rfl ⟨S.back,fun h=>by(rw[eb]at h;cases h),fun _=>rfl⟩
 ·have Oy:p.1.length=p.2.1.length:=by omega
  refine an rfl rfl ?_;refine ax (M:=k5) (A:=RT.pa) (B:=(RT.int .i64).sl) bL rfl rfl jE (by decide) (Qz) rfl rfl (by decide) (by assumption) (by repeat (first|exact ao _ _|refine aV (br (by assumption)) ?_)) (fun afO ab9=>?_);refine an rfl rfl ?_;refine bw (M:=k5) au rfl rfl rfl rfl rfl (by assumption) (by repeat (first|exact ao _ _|refine aV (br (by assumption)) ?_)) (fun Yn GL=>?_);replace GL:((RT.int .i64).sl).V k5 _ p.2.1 Yn:=GL;refine an rfl rfl ?_;refine aT rfl rfl Yh (DC _ GL) (fun r wc hc=>?_);obtain⟨rfl,rfl⟩:=hc;refine an rfl rfl (jx rfl rfl (bI (v':= .bool (decide (¬eG (-1) p.2.1=true))) (by simp) (aE rfl rfl rfl (ad ?_))));refine bK rfl (fun c2=>?_) (fun c2=>?_)
  ·refine ak (aj (ah rfl rfl (ad (aM ?_))))
   have eb:uZ p=false:=by
    unfold uZ
    first
    |(rw[decide_eq_false (show¬p.1.length=p.2.1.length by omega)];simp;done)
    |(simp[c2];done)
   exact aS rfl rfl ⟨S.back,fun h=>by(rw[eb]at h;cases h),fun _=>rfl⟩
  ·have er:eG (-1) p.2.1=true:=b5.1 c2;refine aU (ak (aj ?_));refine dL k5 Aa rfl (fun GM EZ afP afQ y5 jO=>?_);obtain⟨Cw,GN⟩:∃M',M'=ins k5 GM:=⟨_,rfl⟩;rw[←GN]at jO;have Ni:Cw GM:=by rw[GN];exact .inl rfl
   change EZ.heap[GM]? =some (.cells #[.slice none 0 0] _ _)at y5;have:=al kS;replace iA:=(jO.mem _ this).2 iA;replace kS:=jO.aN kS;replace cG:=cG.le (by decide) jO.le;replace hM:=jO.lt hM;have:=S.size;replace S:=S.aw jO;refine ad (ak (aj (lD (xs:=[]) (ys:=[.tmp 4,.tmp 3]) rfl rfl rfl (ah rfl rfl (ad (ak (ak (aj ?_))))))));refine ax (M:=Cw) (A:=RT.pa) (B:=((RT.po).sl).sl) bL rfl rfl si (by decide) (On) rfl rfl (by decide) (by assumption) (by repeat (first|exact ao _ _|refine aV (br (by assumption)) ?_)) (fun Qa Fj=>?_);refine bw (M:=Cw) bS rfl rfl rfl rfl rfl (by assumption) (by repeat (first|exact ao _ _|refine aV (br (by assumption)) ?_)) (fun LU tS=>?_);replace tS:(((RT.po).sl).sl).V Cw _ p.2.2.2 LU:=tS;refine ae rfl rfl ?_;refine aT rfl rfl Yj (vS (cap:=[.pointer (some ⟨GM,0,none⟩),.pointer (some ⟨sc,0,none⟩)]) (B:=w0.heap.size) (J:=vT GM sc (p.1.length:Int) p.2.2.2 w0.heap.size) (bad:=ly (p.1.length:Int)) _ hM tS Yi ⟨_,y5,Ni,by omega,kS,iA,dw _ _ _ _ _⟩ (fun i M w M' w' h s=>h.a7 s) (fun i M w x vx hJ hM hx rZ=>GH w hM (by obtain⟨_,h1,_,h2,_⟩:=hJ;have:=al h1;omega) hJ hx rZ (hRe x (aH hx)) (by have:=(av.1 hx).1;omega))) (fun r6 w6 hc=>?_);obtain⟨M6,k6,rfl,hk6,Gr,s6,hk7,hk8⟩:=hc;replace cG:=cG.le (by decide) s6.le;replace S:=S.j7 s6 (a8 _);refine ad ?_;refine bK rfl (fun c6=>?_) (fun c6=>?_)
   ·obtain⟨x6,hx6,nR⟩:=hk8 c6
    have eb:uZ p=false:=by
     unfold uZ;have:p.2.2.2.all (fun x=> !ly (p.1.length:Int) x)=false:=List.all_eq_false.2 ⟨x6,hx6,by simp[nR]⟩;simp[this]
    refine ak (aj (ah rfl rfl (ad (aM ?_))));exact aS rfl rfl ⟨S.back,fun h=>by(rw[eb]at h;cases h),fun _=>rfl⟩
   ·refine aU (ak (aj ?_));obtain⟨nR,⟨vl,gl,_,_,_,_,jk⟩⟩:=hk7 (by omega);rw[aK (a8 _)]at jk;have o8:(((RT.li).ptr).sl).V M w6 (p.2.2.2.map kP) vl:=jk.close fR S (by simp;omega);replace cG:cf RT.pa M w6 u0 p:=cG.le (by decide) (Le.close fR S);replace S:=S.back;replace hM:=S.lt fR;refine ax (M:=M) (A:=RT.pa) (B:=RT.str.sl) bL rfl rfl uY (by decide) Wz rfl rfl (by decide) cG (ao _ _) (fun afU aca=>?_);refine bw (M:=M) aC rfl rfl rfl rfl rfl (by assumption) (by repeat (first|exact ao _ _|refine aV (br (by assumption)) ?_)) (fun Yo GO=>?_);replace GO:(RT.str.sl).V M _ p.2.2.1 Yo:=GO;refine aX dz rfl rfl rfl gl rfl (bI (v':=vl) rfl ?_);refine aT rfl rfl Yk (Bv _ hM GO o8 (by omega) (by simp;omega)) (fun r8 w8 hc=>?_);obtain⟨pd,rfl,HE,s8⟩:=hc;replace cG:=cG.le (by decide) s8.le;replace o8:=o8.le s8.le;replace gl:=s8.aN gl;replace hM:=s8.lt hM;have:=S.size;replace S:=S.aw s8;refine ae rfl rfl (bR rfl rfl rfl (bR rfl rfl rfl (ah rfl rfl (ah rfl rfl (ad (ak (ak (aj (ae rfl rfl (dW rfl rfl rfl (ad ?_)))))))))));refine bK rfl (fun c9=>?_) (fun c9=>?_)
    ·have eb:uZ p=false:=by
      by_cases h:uZ p=true
      ·unfold uZ at h;simp only[bU,decide_eq_true_eq]at h;exact absurd (by rw[if_pos ⟨by simp[h.1.2],h.2⟩]) c9
      ·simpa using h
     refine ak (aj (ah rfl rfl (ad (aM ?_))));exact aS rfl rfl ⟨S.back,fun h=>by(rw[eb]at h;cases h),fun _=>rfl⟩
    ·have e9:(p.2.2.1.length=(p.2.2.2.map kP).length∧zR none p.2.2.1=true):=by
      by_cases h:(p.2.2.1.length=(p.2.2.2.map kP).length∧zR none p.2.2.1=true)
      ·exact h
      ·exact absurd (by rw[if_neg h];decide) c9
     replace HE:=HE e9.1 e9.2;refine aU (ak ?_);apply T.Ev [0,1,3,4,6,2,5,7,8,9] 5 [2,3,4] 2 aD mixed
     ·simp+decide only[wz,qH,gN,List.map_nil,uR,uT,List.map_toArray,fI,ni,List.idxOf_cons,cond_true,cond_false,Nat.reduceBEq,Nat.reduceAdd,beq_self_eq_true];rfl
     ·rfl
     ·rfl
     ·rfl
     ·rfl
     ·rfl
     ·rfl
     intro DA Gf;have gA:=Gf M;replace cG:=cG.le (by decide) gA.le;replace o8:=o8.le gA.le;replace gl:=gA.aN gl;replace hM:=gA.lt hM;have:=S.size;replace S:=S.aw gA;refine ax (M:=M) (A:=RT.pa) (B:=(RT.int .i64).sl) bL rfl rfl jE (by decide) (Ty) rfl rfl (by decide) (by assumption) (by repeat (first|exact ao _ _|refine aV (br (by assumption)) ?_)) (fun JT Fm=>?_);refine ad ⟨rfl,rfl,rfl,?_⟩;refine bw (M:=M) au rfl rfl rfl rfl rfl (by assumption) (by repeat (first|exact ao _ _|refine aV (br (by assumption)) ?_)) (fun Ry BC=>?_);replace BC:((RT.int .i64).sl).V M _ p.1 Ry:=BC;refine ad ⟨rfl,rfl,rfl,?_⟩;refine ax (M:=M) (A:=RT.pa) (B:=(RT.int .i64).sl) bL rfl rfl jE (by decide) (Qz) rfl rfl (by decide) (by assumption) (by repeat (first|exact ao _ _|refine aV (br (by assumption)) ?_)) (fun acb Nj=>?_);refine ad ⟨rfl,rfl,rfl,?_⟩;refine bw (M:=M) au rfl rfl rfl rfl rfl (by assumption) (by repeat (first|exact ao _ _|refine aV (br (by assumption)) ?_)) (fun Rz mD=>?_);replace mD:((RT.int .i64).sl).V M _ p.2.1 Rz:=mD;refine ad ⟨rfl,rfl,rfl,?_⟩;refine ae rfl rfl ?_;refine ad ⟨rfl,rfl,rfl,?_⟩;refine dr ?_;obtain⟨bb,oo,cs,ee,fr,rfl,kf,_⟩:=Nj.float;refine⟨eV ⟨fV bL rfl jE (by decide),⟨dS rfl kf (fun h=>h),⟨fy,trivial⟩⟩⟩,?_⟩;have kp:=fY aD DA;refine aT rfl rfl MF (nQ hM BC (by omega)) (fun v5 w5 hc=>?_);obtain⟨oN,s5⟩:=hc;replace mD:=mD.le s5.le;replace HE:=(HE.le (by decide) gA.le).le (by decide) s5.le;replace cG:=cG.le (by decide) s5.le;replace o8:=o8.le s5.le;replace gl:=s5.aN gl;replace hM:=s5.lt hM;have:=S.size;replace S:=S.aw s5;refine(fun(kp:dO _ _ _)=>ad ⟨rfl,rfl,fun _=>kp,?_⟩) (by first|exact kp|exact kp.nZ (by assumption)|exact kp.goN (by assumption)|exact kp.go (by assumption) (fun _ _ h=>by first|exact h|exact h.elim))
     refine aT rfl rfl MF (nQ hM mD (by omega)) (fun v6 w6' hc=>?_);obtain⟨pF,Kg⟩:=hc;replace cG:=cG.le (by decide) Kg.le;replace o8:=o8.le Kg.le;replace oN:=oN.le Kg.le;replace mD:=mD.le Kg.le;replace HE:=HE.le (by decide) Kg.le;replace gl:=Kg.aN gl;replace hM:=Kg.lt hM;have:=S.size;replace S:=S.aw Kg;refine(fun(kp:dO _ _ _)=>ad ⟨rfl,rfl,fun _=>kp,?_⟩) (by first|exact kp|exact kp.nZ (by assumption)|exact kp.goN (by assumption)|exact kp.go (by assumption) (fun _ _ h=>by first|exact h|exact h.elim));refine eM (places:=[(0,1),(1,1),(2,1)]) gg Yf Yg rfl ⟨_,_,rfl,rfl,_,_,rfl,rfl,_,_,rfl,rfl,rfl⟩ (out:=[_,_,_]) ⟨0,[_],rfl,gw oN,by simp[Value.cells],1,[_],rfl,gw pF,by simp[Value.cells],2,[_],rfl,qZ HE,by simp[Value.cells],rfl⟩ ?_;refine ad ⟨rfl,rfl,fun h=>absurd rfl h,?_⟩;refine gp (A:=RT.se) (a:=I8 p) rfl rfl hM (WA (x:=I8 p) oN pF HE) rfl (fun u8 w8' hu8 Ja _=>?_);replace cG:=cG.le (by decide) Ja.le;replace o8:=o8.le Ja.le;replace oN:=oN.le Ja.le;replace mD:=mD.le Ja.le;replace HE:=HE.le (by decide) Ja.le;replace pF:=pF.le Ja.le;replace gl:=Ja.aN gl;replace hM:=Ja.lt hM;have:=S.size;replace S:=S.aw Ja;refine ad ⟨rfl,rfl,fun h=>absurd rfl h,?_⟩;refine ah rfl rfl ?_;refine ad ⟨rfl,rfl,fun h=>absurd rfl h,?_⟩;refine jJ (aM ?_)
     have eb:uZ p=true:=by
      unfold uZ;rw[decide_eq_true Oy,er,e9.2,decide_eq_true (by simpa using e9.1),ew.2 (fun x hx=>by simp[nR x hx])];rfl
     exact aS rfl rfl ⟨S.back,fun _=>hu8,fun h=>by(rw[eb]at h;cases h)⟩
theorem uz {M:aI} {p:Pa} {v0:Value} (w0:World) (hM:Lt M w0) (hv:RT.pa.V M w0 p v0) (hR:GI p):
  Spec Tryz.prog 27 #[v0] w0 (fun v w=>Step M w0 M w aD∧(uZ p=true→∃s,v= .tuple #[s,.int .i64 0]∧cf RT.se M w s (I8 p))∧(uZ p=false→v= .tuple #[.pointer none,.int .i64 1])):=by
 refine bh (args:=[_]) (fn:=Tryz.f27) Tryz.func27 rfl (n:=10) Tryz.ntmps27 ?_;have S:Step M w0 M w0 aD:=(ar _ _).b9 (fun _ h=>h.elim) (fun _ h=>h.elim);refine ak (aj ?_);refine gp (A:=RT.pa) rfl rfl hM hv rfl (fun u0 w1 cG s0 _=>?_);replace hM:=s0.lt hM;have:=S.size;replace S:=S.aw s0;refine ah rfl rfl (ah rfl rfl (ad (ak (aj ?_))));refine b7 (M:=M) (A:=RT.pa) bL rfl Ae (by decide) rfl rfl rfl cG (ao _ _) (fun v1 pE=>?_);refine aT rfl rfl E76 (BB _ hM pE hR) (fun r1 w2 hc=>?_);obtain⟨s2,hok,jM⟩:=hc
 obtain⟨o1,Tz⟩:∃o,r1= .pointer o:=by
  cases h:uZ p with
  |true=>obtain⟨b,o,_,h1,_⟩:=hok h;exact⟨_,h1⟩
  |false=>exact⟨none,jM h⟩
 subst Tz;replace cG:=cG.le (by decide) s2.le;replace hM:=s2.lt hM;have:=S.size;replace S:=S.aw s2;refine ah rfl rfl (ad (ak (ak (aj (ae rfl rfl (Rg.pS fK rfl rfl rfl (ad ?_)))))));refine bK rfl (fun c2=>?_) (fun c2=>?_)
 ·refine ak (aj (ah rfl rfl (ah rfl rfl (ad (aM ?_)))))
  have eb:uZ p=false:=by
   by_cases h:uZ p=true
   ·obtain⟨b,o,_,h1,_⟩:=hok h;rw[c2]at h1;cases h1
   ·simpa using h
  exact eA rfl rfl rfl ⟨S.back,fun h=>by(rw[eb]at h;cases h),fun _=>rfl⟩
 ·refine aU (ak (aj (ae rfl rfl (ah rfl rfl (ah rfl rfl (ad (aM ?_)))))))
  have eb:uZ p=true:=by
   by_cases h:uZ p=true
   ·exact h
   ·have:=jM (by simpa using h);simp at this;exact absurd this c2
  exact eA rfl rfl rfl ⟨S.back,fun _=>⟨_,rfl,hok eb⟩,fun h=>by(rw[eb]at h;cases h)⟩
end Go.K
namespace Go.K
section
variable {P:Program} {r:Option Nat} {n:Nat} {L:Sl} {ds:List Deferred} {w:World} {K:Kt} {M:aI} {F:List (Nat×aI)}
def qi (l:List Oper) (m q d:Nat):Bool:=
 Nat.blt q m&&kX l [q] m ((l[m]?.map ca).getD [])&&iQ l (m+1)&&
 ((List.range' m (l.length-m)).all fun j=>match l[j]? with
  |some o=>o9 o.op&&(!(asks l o).contains d||(ca o).contains q)
  |none=>true)
theorem rL {l:List Oper} {m q d:Nat} (h:qi l m q d=true):q<m∧kX l [q] m ((l[m]?.map ca).getD [])=true∧iQ l (m+1)=true∧∀j o,m≤j→l[j]? =some o→o9 o.op=true∧(d∈asks l o→q∈ca o):=by
 simp only[qi,bU,Nat.blt_eq]at h;obtain⟨⟨⟨h1,h2⟩,h3⟩,h4⟩:=h;refine⟨h1,h2,h3,fun j o hj ho=>?_⟩;have dD:=(av.1 ho).1;have:=ew.1 h4 j (List.mem_range'_1.2 ⟨hj,by omega⟩);rw[ho]at this;simp only[bU,Bool.or_eq_true,o0,ik]at this;refine⟨this.1,fun hd=>?_⟩;rcases this.2 with h|h
 ·rw[←Bool.not_eq_true,ik]at h;exact absurd hd h
 ·exact h
structure TJ (P:Program) (r:Option Nat) (n:Nat) (l:List Oper) (m q d:Nat) (c:Value) (L:Sl) (K:Kt) (ds:List Deferred) (D:Nat→Prop) (a:Act) (w:World) (p:Nat) (ac:Act) (Lp:Sl) (wq:World):Prop where
 p0:m≤p
 p1:p≤l.length
 dt:∀i,i<l.length→i≠q→(D i↔i<p)
 ag:gh n ac Lp ds
 tr:pb P r n l.toArray aD wq K 0 (l.drop p) Lp ds w
 yes:D q→a=ac
 no: ¬D q→ac=a.put (some d) c∧∀t u,lk (iN l q L) t=some u→a.tmps[t]? =some u
theorem put_comm (a:Act) {d:Nat} {e:Option Nat} (h:e≠some d) (c v:Value):(a.put (some d) c).put e v=(a.put e v).put (some d) c:=by
 cases e with
 |none=>rfl
 |some e=>
  have eE:e≠d:=fun h'=>h (by rw[h'])
  simp only[Act.put];congr 1;apply Array.ext_getElem?;intro i;simp only[cU,Array.size_setIfInBounds];by_cases h1:e=i<;>by_cases h2:d=i<;>simp_all
theorem xg (a:Act) {d t:Nat} (c:Value) (h:t≠d):(a.put (some d) c).tmps[t]? =a.tmps[t]? :=by rw[fQ,if_neg (fun e=>h (by injection e with e;exact e.symm))]
theorem TJ.next {l:List Oper} {m q d:Nat} {c:Value} (cN:dU l 0=true) (hok:qi l m q d=true) {oq:Oper} (hq:l[q]? =some oq) (BD:oq.dst=some d) (Nk:ir oq.op=true) (Jb:oq.guard=none)
  (gj:∀(ρ:Operand→Value) w,(∀x u,ev (iN l q L) x=some u→ρ x=u)→(execOp ρ oq).run P w= .ok (.value c) w)
  {Q:Exit→Act→World→Prop} {D:Nat→Prop} {a:Act} {w:World} {j:Nat} {o:Oper} {rest:List Nat} (ho:l[j]? =some o) (nj: ¬D j) (hp:∀k∈ca o,D k) {p:Nat} {ac:Act} {Lp:Sl} {wq:World} (hi:TJ P r n l m q d c L K ds D a w p ac Lp wq)
  (hk:∀a' w',(∃p ac Lp wq,TJ P r n l m q d c L K ds (fun i=>i=j∨D i) a' w' p ac Lp wq)→wpOpsIn (FW r) 0 P l.toArray Q rest a' w'):wpOpsIn (FW r) 0 P l.toArray Q (j::rest) a w:=by
 obtain⟨hqm,_,tc,Hx⟩:=rL hok;have sr:=(av.1 ho).1;by_cases TM:j=q
 ·subst TM;rw[hq]at ho;cases ho;obtain⟨Cx,jy⟩:=hi.no nj;refine One.run (by simpa using hq) Nk (v:=c) ?_ (hk _ _ ⟨p,ac,Lp,wq,hi.p0,hi.p1,fun i h1 h2=>⟨fun h=>(hi.dt i h1 h2).1 (h.resolve_left h2),fun h=> .inr ((hi.dt i h1 h2).2 h)⟩,hi.ag,hi.tr,fun _=>by rw[Cx,BD],fun h=>absurd (.inl rfl) h⟩);unfold One;rw[if_pos (by simp[Region.wanted,Jb])];refine gj a.eval w fun x u hx=> ?_
  cases x with
  |tmp t=>simp only[ev]at hx;simp[Act.eval,jy t u hx]
  |const v=>simp only[ev]at hx;cases hx;rfl
  |global g=>simp only[ev]at hx;cases hx;rfl
  |func f=>simp only[ev]at hx;cases hx;rfl
 ·have Uv:j=p:=by
   have h1:p≤j:=by
    rcases fw j p with h|h
    ·exact absurd ((hi.dt j sr TM).2 h) nj
    ·exact h
   have:=hi.p0;rcases fw m j with h|h
   ·have h2:=hp _ (jj tc (j:=j) (by omega) ho);have:=(hi.dt (j-1) (by omega) (by omega)).1 h2;omega
   ·omega
  subst Uv;obtain⟨Uw,hta⟩:=Hx j o hi.p0 ho;have xA:o.dst≠some d:=fun h=>TM (eI cN ho hq h BD)
  have yr:∀t∈asks l o,a.tmps[t]? =ac.tmps[t]? :=fun t ht=>by
   by_cases hD:D q
   ·rw[hi.yes hD]
   ·rw[(hi.no hD).1,xg];rintro rfl;exact hD (hp q (hta ht))
  obtain⟨DS,yH⟩:=lJ yr
  have Tg:a.defers=ac.defers:=by
   by_cases hD:D q
   ·rw[hi.yes hD]
   ·rw[(hi.no hD).1,put_defers]
  have wx:=hi.tr;rw[dm sr,(av.1 ho).2]at wx;have h1:=Rg.run wx ac hi.ag;refine yN (by simpa using ho) Uw DS yH Tg h1 (fun e a w ⟨_,_,_,he,_⟩=>he) (fun v w' ⟨L',nq,hA,_,Eo,_,KX⟩=>?_) (fun d' w' ⟨L',nq,hA,_,Eo,_⟩=>?_)
  ·rw[Eo]at hA;refine hk _ _ ⟨j+1,ac.put o.dst v,L',wq,by have:=hi.p0;omega,by omega,fun i h3 h4=>?_,hA,KX,fun h=>?_,fun h=>?_⟩
   ·constructor
    ·rintro(h|h)
     ·omega
     ·have:=(hi.dt i h3 h4).1 h;omega
    ·intro h;rcases np (show i≤j by omega)with h5|h5
     ·exact .inl h5
     ·exact .inr ((hi.dt i h3 h4).2 h5)
   ·rw[hi.yes (h.resolve_left (fun e=>TM e.symm))]
   ·have hD: ¬D q:=fun h'=>h (.inr h')
    obtain⟨Cx,jy⟩:=hi.no hD;refine⟨by rw[Cx,put_comm a xA],fun t u ht=>?_⟩;obtain⟨h3,h4⟩:=iD (f:=jA l q) ht;rw[fQ,if_neg,jy t u ht];intro e;simp only[jA,ew]at h3;have:=h3 o (aH ho);simp only[e,beq_self_eq_true,Bool.not_true,Bool.false_or,ik]at this;exact hD (hp q this)
  ·have h3:=hA.defers;rw[put_defers,Eo]at h3;have h4:=congrArg List.length h3;rw[hi.ag.defers]at h4;simp at h4
theorem gT.Nl {l:List Oper} {wd:World} (m q d:Nat) (c:Value) {oq:Oper} (F:List (Nat×aI)) (S:List (cH M)) (KU:S.length=m) (qB:Nat.blt m l.length=true) (cN:dU l 0=true) (hok:qi l m q d=true)
  (hq:l[q]? =some oq) (BD:oq.dst=some d) (Nk:ir oq.op=true) (Jb:oq.guard=none) (hS:S[q]? =some (cH.eq c)) (gj:∀(ρ:Operand→Value) w,(∀x u,ev (iN l q L) x=some u→ρ x=u)→(execOp ρ oq).run P w= .ok (.value c) w)
  (l1:∀p∈F,∀b,p.2 b→M b) (hFq:∀p∈F,p.1≠q) (rq:yI F l S) (rr:cg P r n F wd l S ds L l S 0)
  (iO:∀w',Step M wd M w' (hY (F.map (·.2)))→fP w' (fun acc=>pb P r n l.toArray aD w' K 0 (l.drop m) (acc++iN l l.length L) ds w') l S []):gT P r n l L ds wd K:=by
 intro a0 ha;obtain⟨hqm,Ep,tc,Hx⟩:=rL hok;have RA:m<l.length:=by simpa[Nat.blt_eq]using qB
 have start:∀(D:Nat→Prop) a w,(∀i,i<m→i≠q→D i)→(∀i,m≤i→i<l.length→¬D i)→(∀i o,l[i]? =some o→D i→∀k∈ca o,D k)→Inv F S l wd L ds n (fun i=>D i∧i<l.length) a w→∃p ac Lp wq,TJ P r n l m q d c L K ds D a w p ac Lp wq:=by
  intro D a w kO jM kW hi
  obtain⟨ac,Cx⟩:∃ac,(D q→a=ac)∧(¬D q→ac=a.put (some d) c):=by
   by_cases hD:D q
   ·exact⟨a,fun _=>rfl,fun h=>absurd hD h⟩
   ·exact⟨_,fun h=>absurd h hD,fun _=>rfl⟩
  have hqn:d<n∨n≤d:=fw d n
  have gS:n≤ac.tmps.size:=by
   by_cases hD:D q
   ·rw[←Cx.1 hD];exact hi.size
   ·rw[Cx.2 hD,lH];exact hi.size
  have Tg:ac.defers=ds:=by
   by_cases hD:D q
   ·rw[←Cx.1 hD];exact hi.defers
   ·rw[Cx.2 hD,put_defers];exact hi.defers
  have GP:∀t,t≠d→ac.tmps[t]? =a.tmps[t]? :=fun t ht=>by
   by_cases hD:D q
   ·rw[←Cx.1 hD]
   ·rw[Cx.2 hD,xg a c ht]
  have Yp:d<a.tmps.size:=by
   have hg:=rr.take.get q oq (by rw[eo,KU,if_pos hqm];exact hq);by_cases hD:D q
   ·obtain⟨v,h1,_⟩:=hi.done q oq (cH.eq c) d hq hS ⟨hD,by omega⟩ BD;exact(Array.getElem?_eq_some_iff.1 h1).1
   ·refine Classical.byContradiction fun il=> ?_
    obtain⟨s,hs,RB⟩:=hg;rw[Nat.zero_add]at RB;rw[hS]at hs;cases hs
    have hpq:∀k∈ca oq,D k:=fun k hk=>by
     have:=cB cN q oq hq k hk;exact kO k (by omega) (by omega)
    have:=Inv.next (r:=r) (P:=P) hi cN rq l1 (rest:=[]) (Q:=fun _ a' _=>n≤a'.tmps.size∧∃v,a'.tmps[d]? =some v) ⟨cH.eq c,hS,RB⟩ hq (fun h=>hD h.1) (fun k hk=>⟨hpq k hk,by have:=cB cN q oq hq k hk;omega⟩) (fun a' w' fM=>by
     obtain⟨v,h1,_⟩:=fM.done q oq (cH.eq c) d hq hS (.inl rfl) BD;exact⟨fM.size,v,h1⟩)
    have qC:One P r l.toArray w oq a c:=by
     unfold One;rw[if_pos (by simp[Region.wanted,Jb])];refine gj a.eval w fun x u hx=> ?_
     have jy:∀t u,lk (iN l q L) t=some u→a.tmps[t]? =some u:=fun t u ht=>by
      obtain⟨h3,h4⟩:=iD (f:=jA l q) ht;refine hi.base t u h4 fun i o fN yt he=> ?_
      simp only[jA,ew]at h3;have:=h3 o (aH fN);simp only[he,beq_self_eq_true,Bool.not_true,Bool.false_or,ik]at this;exact hD (kW i o fN yt.1 q this)
     cases x with
     |tmp t=>simp only[ev]at hx;simp[Act.eval,jy t u hx]
     |const v=>simp only[ev]at hx;cases hx;rfl
     |global g=>simp only[ev]at hx;cases hx;rfl
     |func f=>simp only[ev]at hx;cases hx;rfl
    simp only[wpOpsIn,qp,hq]at this;rw[if_pos (by simp[Region.wanted,Jb])]at this;obtain⟨_,h2⟩:=this;unfold One at qC;rw[if_pos (by simp[Region.wanted,Jb])]at qC;rw[Oper.semAt_eq _ _ _ (kc Nk),qC]at h2;rw[Oper.uponIn_value]at h2;obtain⟨_,v,h3⟩:=h2;rw[BD]at h3;have:=(Array.getElem?_eq_some_iff.1 h3).1;simp[Act.put]at this;exact il this
  have Yq:∃v,ac.tmps[d]? =some v∧v=c:=by
   by_cases hD:D q
   ·rw[←Cx.1 hD];obtain⟨v,h1,h2⟩:=hi.done q oq (cH.eq c) d hq hS ⟨hD,by omega⟩ BD;exact⟨v,h1,h2⟩
   ·refine⟨c,?_,rfl⟩;rw[Cx.2 hD,fQ,if_pos rfl];simp[cU,Yp]
  have gD:∀{i:Nat} {o:Oper},(l.take m)[i]? =some o→l[i]? =some o∧i<m:=fun {i o} h=>by
   rw[eo]at h
   split at h
   ·exact⟨h,by assumption⟩
   ·cases h
  have jz:Step M wd M w (hY (F.map (·.2))):=hi.step.b9 (fun b ⟨p,hp,hD,hb⟩=>ey.2 ⟨p.2,cq.2 ⟨p,hp,rfl⟩,hb⟩) (fun b hb=>by
   obtain⟨N,hN,CL⟩:=ey.1 hb;obtain⟨p,hp,rfl⟩:=cq.1 hN;exact l1 p hp b CL)
  have hE:=(iO w jz).take;rw[KU]at hE
  obtain⟨acc,h1,h2⟩:=fP.use (a:=ac) (l.take m) S [] (fun i o s h1 h2 h3=>by
    obtain⟨h4,h5⟩:=gD h1;by_cases Kh:i=q
    ·subst Kh;rw[hq]at h4;cases h4;rw[BD]at h3;cases h3
    ·exact hi.fin i o s h4 h2 ⟨kO i h5 Kh,by omega⟩ h3)
   (fun i o s e h1 h2 h3=>by
    obtain⟨h4,h5⟩:=gD h1;by_cases Kh:i=q
    ·subst Kh;rw[hq]at h4;cases h4;rw[BD]at h3;cases h3;rw[hS]at h2;cases h2;exact Yq
    ·obtain⟨v,h6,h7⟩:=hi.done i o s e h4 h2 ⟨kO i h5 Kh,by omega⟩ h3;exact⟨v,by rw[GP e (fun he=>Kh (eI cN h4 hq h3 (by rw[BD,he])))];exact h6,h7⟩)
   (fun t v h=>by simp[lk]at h) hE
  refine⟨m,ac,_,w,a8 _,by omega,fun i h3 h4=>⟨fun h=>?_,fun h=>kO i h h4⟩,⟨gS,Tg,fun t v h=>?_⟩,h1,Cx.1,fun hD=>⟨Cx.2 hD,fun t u ht=>?_⟩⟩
  ·rcases fw i m with h5|h5
   ·exact h5
   ·exact absurd h (jM i h5 h3)
  ·rcases j0 h with h|h
   ·exact h2 t v h
   ·obtain⟨h3,h4⟩:=iD (f:=jA l l.length) h
    have eE:∀(i:Nat) (o:Oper),l[i]? =some o→o.dst≠some t:=fun i o fN he=>by
     simp only[jA,ew]at h3;have:=h3 o (aH fN);simp only[he,beq_self_eq_true,Bool.not_true,Bool.false_or,ik]at this;have h7:=cB cN i o fN _ this;have h8:=(av.1 fN).1;omega
    rw[GP t (fun e=>eE q oq hq (by rw[BD,e]))];exact hi.base t v h4 fun i o fN _=>eE i o fN
  ·obtain⟨h3,h4⟩:=iD (f:=jA l q) ht;refine hi.base t u h4 fun i o fN yt he=> ?_
   simp only[jA,ew]at h3;have:=h3 o (aH fN);simp only[he,beq_self_eq_true,Bool.not_true,Bool.false_or,ik]at this;exact hD (kW i o fN yt.1 q this)
 refine⟨fun D a w=>((∀i,m≤i→i<l.length→¬D i)∧Inv F S l wd L ds n (fun i=>D i∧i<l.length) a w)∨∃p ac Lp wq,TJ P r n l m q d c L K ds D a w p ac Lp wq,fun D D' a w hJ hD=>?_,fun Q D a w j o rest hj ho nj hp kW hJ hk=>?_,fun a w hJ=>?_,.inl ⟨fun i _ _ h=>h,?_⟩⟩
 ·rcases hJ with⟨h1,h2⟩|⟨p,ac,Lp,wq,h⟩
  ·refine .inl ⟨fun i h3 h4 h5=>h1 i h3 h4 ((hD i h4).1 h5),?_⟩;have:(fun i=>D' i∧i<l.length)=fun i=>D i∧i<l.length:=funext fun i=>propext ⟨fun⟨h3,h4⟩=>⟨(hD i h4).1 h3,h4⟩,fun⟨h3,h4⟩=>⟨(hD i h4).2 h3,h4⟩⟩
   rw[this];exact h2
  ·exact .inr ⟨p,ac,Lp,wq,h.p0,h.p1,fun i h3 h4=>(hD i h3).trans (h.dt i h3 h4),h.ag,h.tr,fun h3=>h.yes ((hD q (by omega)).1 h3),fun h3=>h.no fun h4=>h3 ((hD q (by omega)).2 h4)⟩
 ·rcases hJ with⟨h1,h2⟩|⟨p,ac,Lp,wq,h⟩
  ·rcases fw j m with yu|yu
   ·have hg:=rr.take.get j o (by rw[eo,KU,if_pos yu];exact ho);rw[Nat.zero_add]at hg;refine h2.next cN rq l1 hg ho (fun h=>nj h.1) (fun k qF=>⟨hp k qF,by have:=cB cN j o ho k qF;omega⟩) fun a' w' fM=>hk a' w' (.inl ⟨fun i h3 h4 h5=>?_,?_⟩)
    ·rcases h5 with h5|h5
     ·omega
     ·exact h1 i h3 h4 h5
    ·have:(fun i=>(i=j∨D i)∧i<l.length)=fun i=>i=j∨D i∧i<l.length:=funext fun i=>propext ⟨fun⟨h3,h4⟩=>h3.elim .inl fun h=> .inr ⟨h,h4⟩,fun h=>h.elim (fun h=>⟨.inl h,by omega⟩) fun h=>⟨.inr h.1,h.2⟩⟩
     rw[this];exact fM
   ·have Yr:j=m:=by
     rcases fw m j with h|h
     ·have:=hp _ (jj tc (j:=j) (by omega) ho);exact absurd this (h1 (j-1) (by omega) (by omega))
     ·omega
    subst Yr;rw[ho]at Ep;obtain⟨p,ac,Lp,wq,h⟩:=start D a w (fun i hi Kh=>kY (D:=D) kW j (ca o) Ep hp i hi (by simpa using Kh)) h1 kW h2;exact h.next cN hok hq BD Nk Jb gj ho nj hp fun a' w' h'=>hk a' w' (.inr h')
  ·exact h.next cN hok hq BD Nk Jb gj ho nj hp fun a' w' h'=>hk a' w' (.inr h')
 ·rcases hJ with⟨h1,_⟩|⟨p,ac,Lp,wq,h⟩
  ·exact absurd RA (h1 m (a8 _) RA)
  ·have yv:p=l.length:=by
    rcases fw p l.length with h3|h3
    ·have h4:=(h.dt p h3 (by have:=h.p0;omega)).1 h3;omega
    ·have:=h.p1;omega
   have wx:=h.tr;rw[yv,List.drop_length]at wx;exact⟨Lp,ds,by rw[h.yes (by show q<l.length;omega)];exact h.ag,wx⟩
 ·refine⟨(ar M wd).b9 (fun _ h=>h.elim) (fun b ⟨p,hp,_,hb⟩=>l1 p hp b hb),fun i o s _ _ h=>h.1.elim,ha.size,ha.defers,fun i o s e _ _ h=>h.1.elim,fun t v h _=>ha.at_ t v h,fun i o _ h=>h.1.elim⟩
theorem T.RC {id:Nat} {l l':List Oper} (π:List Nat) (m q d:Nat) (c:Value) {oq:Oper} (F:List (Nat×aI)) (S:List (cH M)) (hm:P.follows .mixedOrders=true) (Ew:wz π l=l') (ru:dU l 0=true) (hπ:kg π l.length=true) (KU:S.length=m) (qB:Nat.blt m l'.length=true) (cN:dU l' 0=true) (hok:qi l' m q d=true)
  (hq:l'[q]? =some oq) (BD:oq.dst=some d) (Nk:ir oq.op=true) (Jb:oq.guard=none) (hS:S[q]? =some (cH.eq c)) (gj:∀(ρ:Operand→Value) w,(∀x u,ev (iN l' q L) x=some u→ρ x=u)→(execOp ρ oq).run P w= .ok (.value c) w)
  (l1:∀p∈F,∀b,p.2 b→M b) (hFq:∀p∈F,p.1≠q) (rq:yI F l' S)
  (h:∀wD,(∀M,Step M w M wD aD)→cg P r n F wD l' S ds L l' S 0∧∀w',Step M wD M w' (hY (F.map (·.2)))→fP w' (fun acc=>pb P r n l'.toArray aD w' K 0 (l'.drop m) (acc++iN l' l'.length L) ds w') l' S []):T P r n (.region id l.toArray true) L ds w K:=by
 subst Ew;exact gT.t hm ru fun wD hD=> .perm π hπ ru (.Nl m q d c F S KU qB cN hok hq BD Nk Jb hS gj l1 hFq rq (h wD hD).1 (h wD hD).2)
theorem BE {s:TypeId} {fs:Array Field} {fd:Field} {j size o o' b:Nat} {zv:Value} {bytes:Nat} {x:Operand} {dst:Option Tmp} {ty:TypeId} {pos:String} {af:Array Edge} {gd:Option (Nat×Bool)} (hu:P.underlying s=some (.struct fs)) (Ea:fs[j]? =some fd) (ho:o+fd.offset=o') (hi:TI P fd.type zv size bytes) (hs:size≠0)
  {ρ:Operand→Value} (hx:ρ x= .pointer (some ⟨b,o,none⟩)) (w:World):(execOp ρ {dst,op:= .fieldAddr s x j,type:=ty,pos,after:=af,guard:=gd}).run P w= .ok (.value (.pointer (some ⟨b,o',none⟩))) w:=by
 simp only[execOp,hx];simp[Instr.fieldAt,run_underlying hu,Ea,Instr.sureAddr,fieldPlace,hi.sizeOf,hs,←ho,Addr.add_mid]
end
end Go.K
namespace Go.K
open Go.Proofs
set_option maxRecDepth 10000
def k9:Int→List En→Int
 |last,[]=>last
 |_,e::L=>k9 e.2 L
def Af:Int→List En→Bool
 |_,[]=>true
 |last,e::L=>decide (kE last e=0)&&Af e.2 L
theorem GQ:∀{L:List En} {last:Int} {i:Nat} {e:En},Af last L=true→L[i]? =some e→kE (k9 last (L.take i)) e=0∧k9 last (L.take (i+1))=e.2
 |[],_,_,_,_,h=>by simp at h
 |x::L,last,0,e,h,hi=>by
  simp only[Af,bU,decide_eq_true_eq]at h;simp at hi;subst hi;exact⟨by simpa[k9]using h.1,by simp[k9]⟩
 |x::L,last,i+1,e,h,hi=>by
  simp only[Af,bU,decide_eq_true_eq]at h;have:=GQ h.2 (by simpa using hi);simpa[k9]using this
theorem xh {last:Int} {e:En} (h:kE last e=0):gz e.1∧last<e.2:=by
 unfold kE at h
 split at h
 ·rename_i h1;exact absurd h h1
 ·rename_i h1
  split at h
  ·cases h
  ·exact⟨Co (by simpa using h1),by omega⟩
theorem kH:∀{L:List En} {last:Int},Af last L=true→∀e∈L,gz e.1
 |[],_,_,e,h=>by cases h
 |x::L,last,h,e,he=>by
  simp only[Af,bU,decide_eq_true_eq]at h;rcases dP.1 he with rfl|he
  ·exact(xh h.1).1
  ·exact kH h.2 e he
theorem xi:∀{L:List En} {last:Int},Af last L=true→eG last (L.map (·.2))=true
 |[],_,_=>rfl
 |x::L,last,h=>by
  simp only[Af,bU,decide_eq_true_eq]at h;simp only[gN,eG,bU,decide_eq_true_eq];exact⟨(xh h.1).2,xi h.2⟩
def iq (L:List En):Pa:=(L.map (·.1.1),L.map (·.2),keysOf L,(keysOf L).map (pk L))
theorem DF {x:List Po} (h:x≠[]):∃p∈x,Ab x=p.1:=by
 unfold Ab
 cases hl:x.getLast? with
 |none=>exact absurd (List.getLast?_eq_none_iff.1 hl) h
 |some p=>exact⟨p,List.mem_of_getLast? hl,rfl⟩
theorem GR {L:List En} (h:Af (-1) L=true) (hn:L.length≤1000000):uZ (iq L)=true:=by
 have hF:=kH h;have h1:(keysOf L).map (pk L)=(iq L).2.2.2:=rfl;unfold uZ;have e1:decide ((iq L).1.length=(iq L).2.1.length)=true:=by simp[iq]
 have e2:eG (-1) (iq L).2.1=true:=xi h;have e3:decide ((iq L).2.2.1.length=(iq L).2.2.2.length)=true:=by simp[iq]
 have e4:zR none (iq L).2.2.1=true:=MH (k8 L)
 have e5:(iq L).2.2.2.all (fun x=> !ly ((iq L).1.length:Int) x)=true:=by
  refine ew.2 fun x hx=> ?_
  rw[←h1]at hx;obtain⟨k,hk,rfl⟩:=cq.1 hx;have eE:pk L k≠[]:=FO 0 (iT.1 hk)
  have Ys:(pk L k).isEmpty=false:=by
   cases h:pk L k with
   |nil=>exact absurd h eE
   |cons a b=>rfl
  have lT:eR (-1) (pk L k)=true:=sC k L 0 (-1) hF (by omega) (by omega);obtain⟨p,hp,hl⟩:=DF eE;have:=(nP k L 0 hF).2 p hp;have hlen:((iq L).1.length:Int)=L.length:=by simp[iq]
  simp only[ly,lT,Ys,hlen,hl];rw[decide_eq_false (by omega)];rfl
 rw[e1,e2,e3,e4,e5];rfl
theorem Jc {L:List En} (hF:∀e∈L,gz e.1) (hn:L.length≤1000000) (k:List UInt8):Room (pk L k):=by
 have h1:=nP k L 0 hF;have lT:eR (-1) (pk L k)=true:=sC k L 0 (-1) hF (by omega) (by omega);have so:∀p∈pk L k,p.2.length≤500:=fun p hp=>(h1.2 p hp).2.2
 obtain⟨h2,h3⟩:=qW (pk L k) (-1) 500 (by omega) lT so (by omega);have hl:(pk L k).length≤L.length:=h1.1;exact⟨fun p hp=>by have:=so p hp;omega,by omega,by omega,by omega⟩
theorem Cy {L:List En} (hF:∀e∈L,gz e.1) (hn:L.length≤1000000):GI (iq L):=by
 have hk:(keysOf L).length≤500000000:=by
  have h1:=(k8 L).nodup.length_le_of_subset (l₂:=fU L) (fun x hx=>iT.1 hx);have:=j3 hF;omega
 refine⟨by simp[iq];omega,by simp[iq];omega,by simp only[iq];omega,by simp[iq];omega,fun x hx=>?_⟩;obtain⟨k,_,rfl⟩:=cq.1 hx;exact Jc hF hn k
theorem Nn {M:aI} {w:World} {e:En} {v:Value} (h:RT.en.V M w e v):(-9223372036854775808≤e.1.1∧e.1.1≤9223372036854775807)∧ -9223372036854775808≤e.2∧e.2≤9223372036854775807:=by
 obtain⟨vs,⟨va,vb,_,⟨vc,vd,_,⟨_,h1⟩,_⟩,⟨_,h2⟩⟩,_⟩:=h;exact⟨h1,h2⟩
def ZP (B b:Nat) (vi vs:Value):aI:=fun k=>B≤k∧k≠b∧vi.ownBlock≠some k∧vs.ownBlock≠some k
theorem Own.Ki {κ:IntKind} {e:TypeId} {M M' N:aI} {w w':World} {base:Nat} {v:Value} {xs:List Int} (h:Own (RT.int κ) e (ov v) w base v xs) (s:Step M w M' w' N) (hn:∀c,v.ownBlock=some c→¬N c):Own (RT.int κ) e (ov v) w' base v xs:=
 ((h.H4 (M':=allM) (fun _ _=>trivial)).Pc s.all hn).lone
theorem Step.Yt {M M' N:aI} {w w':World} (s:Step M w M' w' N) {v:Value} (hv:∀b,v.ownBlock=some b→b<w'.heap.size∧(w.heap.size≤b∨M' b)):Step M w (jL M' v) w' N:=
 ⟨fun h k hk=>hk.elim (fun h1=>(hv k h1).1) (fun h1=>s.lt h k h1),s.os,s.tape,s.output,s.size,fun k hk=>⟨fun h=>by
  rcases h with h|h
  ·rcases(hv k h).2 with h1|h1
   ·omega
   ·exact(s.mem k hk).1 h1
  ·exact(s.mem k hk).1 h,fun h=> .inr ((s.mem k hk).2 h)⟩,s.same,s.sub⟩
end Go.K
namespace Go.K
open Go.Proofs
namespace TKSegG
theorem TN:Enters Tryz.prog 51:=enters Tryz.func51 rfl (by decide)
theorem RD:Enters Tryz.prog 180:=enters Tryz.func180 rfl (by decide)
end TKSegG
open TKSegG
set_option maxRecDepth 10000
theorem BF {M:aI} {w0:World} {v u:Value} {a b:List Po} (hM:Lt M w0) (hv:((RT.po).sl).V M w0 a v) (hu:((RT.po).sl).V M w0 b u):
  Spec Tryz.prog 85 #[v,u] w0 (fun v' w'=>v'= .bool (decide (a=b))∧Step M w0 M w' aD):=by
 have K5:=dd hv;have Ov:=dd hu;refine bh (args:=[_,_]) (fn:=Tryz.f85) Tryz.func85 rfl (n:=44) Tryz.ntmps85 (ak (aj (ah rfl rfl (ad (ak (ak (aj (ae rfl rfl (bz aR rfl hv rfl (ae rfl rfl (bz aR rfl hu rfl ?_)))))))))));refine dW rfl rfl rfl (ad ?_);refine bK rfl (fun c1=>?_) (fun c1=>?_)
 ·refine ak (aj (ah rfl rfl (ad (aM ?_))));refine aS rfl rfl ⟨?_,ar _ _⟩;rw[decide_eq_false];rintro rfl;exact c1 rfl
 ·obtain hlen:a.length=b.length:=by omega
  refine aU (ak (ak (aj (ah rfl rfl (ad (aW ?_))))));refine cX (σ:=Nat) (fun s=>[(0,v),(1,u),(5,.int .i64 s)]) (fun s w=>s≤a.length∧a.take s=b.take s∧Step M w0 M w aD) (fun s=>a.length-s) 0 (.cons rfl (.cons rfl (.cons rfl .nil))) ?_ ?_
  ·exact⟨bC _,by simp,ar _ _⟩
  ·rintro k w1 ⟨hk,heq,S⟩;refine ak (ak (aj (ae rfl rfl (ae rfl rfl (bz aR rfl hv rfl (cj rfl rfl rfl (ad ?_)))))));refine bK rfl (fun c4=>?_) (fun c4=>?_)
   ·refine aU (ak (aW (ak ?_)));obtain⟨⟨d,ps⟩,hx⟩:∃x,a[k]? =some x:=⟨_,aF (by omega)⟩;obtain⟨⟨e,qs⟩,hy⟩:∃y,b[k]? =some y:=⟨_,aF (by omega)⟩;have Xx:=S.lt hM;apply T.draw (M:=M) mixed [cH.eq _,cH.eq _,cH.ptr RT.po (d,ps),cH.ptr ((RT.int .i64).sl) ps,cH.V ((RT.int .i64).sl) ps,cH.eq _,cH.eq _,cH.ptr RT.po (e,qs),cH.ptr ((RT.int .i64).sl) qs,cH.V ((RT.int .i64).sl) qs,cH.eq (.bool (decide (ps=qs))),cH.eq _]
    ·rfl
    ·refine aY ?_ ?_
     ·intro wD E sD;refine ae rfl rfl ?_;exact ad ⟨rfl,rfl,_,rfl,rfl,ar _ _⟩
     refine aY ?_ ?_
     ·intro wD E sD;refine ae rfl rfl ?_;exact ad ⟨rfl,rfl,_,rfl,rfl,ar _ _⟩
     refine aY ?_ ?_
     ·intro wD E sD;refine aZ (aZ ?_);refine cb (M:=M) aR eN rfl rfl rfl (hv.le (S.aw sD).le) (ao _ _) (by omega) (fun ui ai BG GS=>?_);obtain rfl:(d,ps)=ai:=ei (aQ (BG.symm.trans (by simpa using hx)));exact ad ⟨rfl,rfl,_,rfl,GS,ar _ _⟩
     refine aY ?_ ?_
     ·intro wD E sD;intro v2 qu;refine ax (M:=M) (A:=RT.po) (B:=((RT.int .i64).sl)) bm rfl rfl jE (by decide) H2 rfl rfl (by decide) (show cf RT.po M wD v2 (d,ps)from qu) (ao _ _) (fun uf nf=>?_);exact ad ⟨rfl,rfl,_,rfl,nf,ar _ _⟩
     refine aY ?_ ?_
     ·intro wD E sD;intro v3 qw;refine bw (M:=M) au rfl rfl rfl rfl rfl (show cf ((RT.int .i64).sl) M wD v3 ps from qw) (ao _ _) (fun uf nf=>?_);exact ad ⟨rfl,rfl,_,rfl,nf,ar _ _⟩
     refine aY ?_ ?_
     ·intro wD E sD;refine ae rfl rfl ?_;exact ad ⟨rfl,rfl,_,rfl,rfl,ar _ _⟩
     refine aY ?_ ?_
     ·intro wD E sD;refine ae rfl rfl ?_;exact ad ⟨rfl,rfl,_,rfl,rfl,ar _ _⟩
     refine aY ?_ ?_
     ·intro wD E sD;refine aZ (aZ ?_);refine cb (M:=M) aR eN rfl rfl rfl (hu.le (S.aw sD).le) (ao _ _) (by omega) (fun ui ai BG GS=>?_);obtain rfl:(e,qs)=ai:=ei (aQ (BG.symm.trans (by simpa using hy)));exact ad ⟨rfl,rfl,_,rfl,GS,ar _ _⟩
     refine aY ?_ ?_
     ·intro wD E sD;intro v7 sy;refine ax (M:=M) (A:=RT.po) (B:=((RT.int .i64).sl)) bm rfl rfl jE (by decide) H2 rfl rfl (by decide) (show cf RT.po M wD v7 (e,qs)from sy) (ao _ _) (fun uf nf=>?_);exact ad ⟨rfl,rfl,_,rfl,nf,ar _ _⟩
     refine aY ?_ ?_
     ·intro wD E sD;intro v8 vQ;refine bw (M:=M) au rfl rfl rfl rfl rfl (show cf ((RT.int .i64).sl) M wD v8 qs from vQ) (ao _ _) (fun uf nf=>?_);exact ad ⟨rfl,rfl,_,rfl,nf,ar _ _⟩
     refine aY ?_ ?_
     ·intro wD E sD;intro v4 nk;intro v9 Az;refine aT rfl rfl TN (ra (M:=M) (sD.lt Xx) (show((RT.int .i64).sl).V M wD ps v4 from nk) (show((RT.int .i64).sl).V M wD qs v9 from Az)) (fun r1 w1 h1=>?_);obtain⟨rfl,s1⟩:=h1;exact ad ⟨rfl,rfl,_,rfl,rfl,s1⟩
     refine aY ?_ ?_
     ·intro wD E sD;refine aZ (aZ (aZ (aZ ?_)));intro v2 qu;intro v3 qw;intro v4 nk;refine aZ (aZ ?_);intro v7 sy;intro v8 vQ;intro v9 Az;refine aZ (ah rfl rfl ?_);exact ad ⟨rfl,rfl,_,rfl,rfl,ar _ _⟩
     exact cy.nil
    ·intro ML lX;refine aZ (aZ ?_);intro Xw Q9;intro afY acf;intro afZ acg;refine aZ (aZ ?_);intro af0 ach;intro af1 aci;intro af3 acj;refine aZ (aZ (ak ?_));by_cases Ag:d≠e
     ·apply T.draw (M:=M) mixed [cH.eq _,cH.eq _,cH.ptr RT.po (d,ps),cH.ptr (RT.int .i64) d,cH.eq (.int .i64 d),cH.eq _,cH.eq _,cH.ptr RT.po (e,qs),cH.ptr (RT.int .i64) e,cH.eq (.int .i64 e),cH.eq _,cH.eq (.bool true),cH.eq undef,cH.eq undef,cH.eq _]
      ·rfl
      ·refine aY ?_ ?_
       ·intro wD E sD;refine ae rfl rfl ?_;exact ad ⟨rfl,rfl,_,rfl,rfl,ar _ _⟩
       refine aY ?_ ?_
       ·intro wD E sD;refine ae rfl rfl ?_;exact ad ⟨rfl,rfl,_,rfl,rfl,ar _ _⟩
       refine aY ?_ ?_
       ·intro wD E sD;refine aZ (aZ ?_);refine cb (M:=M) aR eN rfl rfl rfl (hv.le ((S.aw lX).aw sD).le) (ao _ _) (by omega) (fun ui ai BG GS=>?_);obtain rfl:(d,ps)=ai:=ei (aQ (BG.symm.trans (by simpa using hx)));exact ad ⟨rfl,rfl,_,rfl,GS,ar _ _⟩
       refine aY ?_ ?_
       ·intro wD E sD;intro v2 qu;refine ax (M:=M) (A:=RT.po) (B:=RT.int .i64) bm rfl rfl I3 (by decide) B6 rfl rfl (by decide) (show cf RT.po M wD v2 (d,ps)from qu) (ao _ _) (fun uf nf=>?_);exact ad ⟨rfl,rfl,_,rfl,nf,ar _ _⟩
       refine aY ?_ ?_
       ·intro wD E sD;intro v3 qw;refine b4 (M:=M) ay rfl rfl (by assumption) (by repeat (first|exact ao _ _|refine aV (br (by assumption)) ?_)) (fun RE=>?_);exact ad ⟨rfl,rfl,_,rfl,rfl,ar _ _⟩
       refine aY ?_ ?_
       ·intro wD E sD;refine ae rfl rfl ?_;exact ad ⟨rfl,rfl,_,rfl,rfl,ar _ _⟩
       refine aY ?_ ?_
       ·intro wD E sD;refine ae rfl rfl ?_;exact ad ⟨rfl,rfl,_,rfl,rfl,ar _ _⟩
       refine aY ?_ ?_
       ·intro wD E sD;refine aZ (aZ ?_);refine cb (M:=M) aR eN rfl rfl rfl (hu.le ((S.aw lX).aw sD).le) (ao _ _) (by omega) (fun ui ai BG GS=>?_);obtain rfl:(e,qs)=ai:=ei (aQ (BG.symm.trans (by simpa using hy)));exact ad ⟨rfl,rfl,_,rfl,GS,ar _ _⟩
       refine aY ?_ ?_
       ·intro wD E sD;intro v7 sy;refine ax (M:=M) (A:=RT.po) (B:=RT.int .i64) bm rfl rfl I3 (by decide) B6 rfl rfl (by decide) (show cf RT.po M wD v7 (e,qs)from sy) (ao _ _) (fun uf nf=>?_);exact ad ⟨rfl,rfl,_,rfl,nf,ar _ _⟩
       refine aY ?_ ?_
       ·intro wD E sD;intro v8 vQ;refine b4 (M:=M) ay rfl rfl (by assumption) (by repeat (first|exact ao _ _|refine aV (br (by assumption)) ?_)) (fun RF=>?_);exact ad ⟨rfl,rfl,_,rfl,rfl,ar _ _⟩
       refine aY ?_ ?_
       ·intro wD E sD;refine aZ (aZ (dW rfl rfl rfl ?_));exact ad ⟨rfl,rfl,_,rfl,rfl,ar _ _⟩
       refine aY ?_ ?_
       ·intro wD E sD;refine aZ (ae rfl rfl ?_);refine ad ⟨rfl,rfl,_,rfl,?_,ar _ _⟩;exact congrArg Value.bool (decide_eq_true Ag)
       refine aY ?_ ?_
       ·intro wD E sD;refine aZ ?_;exact aq rfl rfl rfl rfl (ad ⟨rfl,rfl,_,rfl,rfl,ar _ _⟩)
       refine aY ?_ ?_
       ·intro wD E sD;refine aZ (aZ ?_);exact aq rfl rfl rfl rfl (ad ⟨rfl,rfl,_,rfl,rfl,ar _ _⟩)
       refine aY ?_ ?_
       ·intro wD E sD;refine aZ (aZ (aP rfl rfl rfl ?_));exact ad ⟨rfl,rfl,_,rfl,rfl,ar _ _⟩
       exact cy.nil
      ·intro XM OB;refine aZ (aZ ?_);intro Yu RG;intro Rf Gy;refine aZ (aZ (aZ ?_));intro Yv RH;intro Yw RI;refine aZ (aZ (aZ (aZ (aZ (aZ (jH rfl (ak (aj (ah rfl rfl (ad (aM ?_)))))))))));refine aS rfl rfl ⟨?_,(S.aw lX).aw OB⟩;rw[decide_eq_false];rintro rfl;rw[hx]at hy;cases hy;first|exact Ag rfl|exact c7 rfl
     ·apply T.draw (M:=M) mixed [cH.eq _,cH.eq _,cH.ptr RT.po (d,ps),cH.ptr (RT.int .i64) d,cH.eq (.int .i64 d),cH.eq _,cH.eq _,cH.ptr RT.po (e,qs),cH.ptr (RT.int .i64) e,cH.eq (.int .i64 e),cH.eq _,cH.eq (.bool false),cH.eq _,cH.eq (.bool (decide (¬ps=qs))),cH.eq _]
      ·rfl
      ·refine aY ?_ ?_
       ·intro wD E sD;refine ae rfl rfl ?_;exact ad ⟨rfl,rfl,_,rfl,rfl,ar _ _⟩
       refine aY ?_ ?_
       ·intro wD E sD;refine ae rfl rfl ?_;exact ad ⟨rfl,rfl,_,rfl,rfl,ar _ _⟩
       refine aY ?_ ?_
       ·intro wD E sD;refine aZ (aZ ?_);refine cb (M:=M) aR eN rfl rfl rfl (hv.le ((S.aw lX).aw sD).le) (ao _ _) (by omega) (fun ui ai BG GS=>?_);obtain rfl:(d,ps)=ai:=ei (aQ (BG.symm.trans (by simpa using hx)));exact ad ⟨rfl,rfl,_,rfl,GS,ar _ _⟩
       refine aY ?_ ?_
       ·intro wD E sD;intro v2 qu;refine ax (M:=M) (A:=RT.po) (B:=RT.int .i64) bm rfl rfl I3 (by decide) B6 rfl rfl (by decide) (show cf RT.po M wD v2 (d,ps)from qu) (ao _ _) (fun uf nf=>?_);exact ad ⟨rfl,rfl,_,rfl,nf,ar _ _⟩
       refine aY ?_ ?_
       ·intro wD E sD;intro v3 qw;refine b4 (M:=M) ay rfl rfl (by assumption) (by repeat (first|exact ao _ _|refine aV (br (by assumption)) ?_)) (fun RE=>?_);exact ad ⟨rfl,rfl,_,rfl,rfl,ar _ _⟩
       refine aY ?_ ?_
       ·intro wD E sD;refine ae rfl rfl ?_;exact ad ⟨rfl,rfl,_,rfl,rfl,ar _ _⟩
       refine aY ?_ ?_
       ·intro wD E sD;refine ae rfl rfl ?_;exact ad ⟨rfl,rfl,_,rfl,rfl,ar _ _⟩
       refine aY ?_ ?_
       ·intro wD E sD;refine aZ (aZ ?_);refine cb (M:=M) aR eN rfl rfl rfl (hu.le ((S.aw lX).aw sD).le) (ao _ _) (by omega) (fun ui ai BG GS=>?_);obtain rfl:(e,qs)=ai:=ei (aQ (BG.symm.trans (by simpa using hy)));exact ad ⟨rfl,rfl,_,rfl,GS,ar _ _⟩
       refine aY ?_ ?_
       ·intro wD E sD;intro v7 sy;refine ax (M:=M) (A:=RT.po) (B:=RT.int .i64) bm rfl rfl I3 (by decide) B6 rfl rfl (by decide) (show cf RT.po M wD v7 (e,qs)from sy) (ao _ _) (fun uf nf=>?_);exact ad ⟨rfl,rfl,_,rfl,nf,ar _ _⟩
       refine aY ?_ ?_
       ·intro wD E sD;intro v8 vQ;refine b4 (M:=M) ay rfl rfl (by assumption) (by repeat (first|exact ao _ _|refine aV (br (by assumption)) ?_)) (fun RF=>?_);exact ad ⟨rfl,rfl,_,rfl,rfl,ar _ _⟩
       refine aY ?_ ?_
       ·intro wD E sD;refine aZ (aZ (dW rfl rfl rfl ?_));exact ad ⟨rfl,rfl,_,rfl,rfl,ar _ _⟩
       refine aY ?_ ?_
       ·intro wD E sD;refine aZ (ae rfl rfl ?_);refine ad ⟨rfl,rfl,_,rfl,?_,ar _ _⟩;exact congrArg Value.bool (decide_eq_false Ag)
       refine aY ?_ ?_
       ·intro wD E sD;refine aZ (an rfl rfl (ae rfl rfl ?_));exact ad ⟨rfl,rfl,_,rfl,rfl,ar _ _⟩
       refine aY ?_ ?_
       ·intro wD E sD;refine aZ (aZ (an rfl rfl (jx rfl rfl (bI (v':= .bool (decide (¬ps=qs))) (by simp) ?_))));exact ad ⟨rfl,rfl,_,rfl,rfl,ar _ _⟩
       refine aY ?_ ?_
       ·intro wD E sD;refine aZ (aZ (aE rfl rfl rfl ?_));exact ad ⟨rfl,rfl,_,rfl,rfl,ar _ _⟩
       exact cy.nil
      ·intro XM OB;refine aZ (aZ ?_);intro Yu RG;intro Rf Gy;refine aZ (aZ (aZ ?_));intro Yv RH;intro Yw RI;refine aZ (aZ (aZ (aZ (aZ (aZ ?_)))));refine bK rfl (fun c7=>?_) (fun c7=>?_)
       ·refine ak (aj (ah rfl rfl (ad (aM ?_))));refine aS rfl rfl ⟨?_,(S.aw lX).aw OB⟩;rw[decide_eq_false];rintro rfl;rw[hx]at hy;cases hy;first|exact Ag rfl|exact c7 rfl
       ·refine aU (aj (ae rfl rfl (bE rfl rfl rfl (by omega) (ah rfl rfl (ad ?_)))));refine⟨rfl,k+1,(.cons rfl (.cons rfl (.cons rfl .nil))),?_,?_⟩
        ·refine⟨by omega,?_,(S.aw lX).aw OB⟩;obtain⟨_,h1⟩:=av.1 hx;obtain⟨_,h2⟩:=av.1 hy;rw[dG (by omega),dG (by omega),heq,h1,h2,b5.1 Ag,b5.1 c7]
        ·show a.length-(k+1)<a.length-k;omega
   ·refine cK (ak (aj (ah rfl rfl (ad (aM ?_)))));refine aS rfl rfl ⟨?_,S⟩;rw[decide_eq_true]
    rwa [aK (by omega),aK (by omega)]at heq
theorem BH {M:aI} {w0:World} {v:Value} (hM:Lt M w0):
  Spec Tryz.prog 130 #[v] w0 (fun v' w'=>∃bp,v'= .func (.func 179) [].toArray [.pointer (some ⟨bp,0,none⟩)].toArray∧w'.heap[bp]? =some (.cells v.cells 129 (0,0))∧w0.heap.size≤bp∧Step M w0 M w' aD):=by
 refine bh (args:=[_]) (fn:=Tryz.f130) Tryz.func130 rfl (n:=4) Tryz.ntmps130 (ak (aj ?_));refine Rg.box M rfl rfl (fun bp w1 h1 O9 hS s1=>?_);refine ah rfl rfl (ad (ak (aj (lD (xs:=[]) (ys:=[.tmp 1]) rfl rfl rfl (ah rfl rfl (ad (aM ?_)))))));exact aS rfl rfl ⟨bp,rfl,hS,h1,s1.back⟩
theorem Ah {w0:World} {bp yl:Nat} {v:Value} {l:List Po} {J:Nat→aI→World→Prop} {M:aI} {Jx:World→Prop} (GA:∀i M w,J i M w→w.heap[bp]? =some (.cells #[v] 129 (0,0))∧Lt M w∧cf RT.li M w v (kP l)∧∀w',Step M w M w' aD→J i M w') (lT:eR (-1) l=true) (so:∀p∈l,p.2.length≤1099511627776) (AA:(dy (-1) l).length≤1099511627776) (N9:l.length≤1099511627776) (hy:∀(i:Nat) (M:aI) (w:World) (u:Value),J i M w→i<(l.length+7)/8→((RT.po).sl).V M w ((l.drop (8*i)).take 8) u→tf Tryz.prog yl [u].toArray w (fun r w'=>∃b,r= .bool b∧(b=true→∃M',J (i+1) M' w')∧(b=false→Jx w'))) (h0:J 0 M w0):
  Spec Tryz.prog 179 #[.func (.yield yl) #[] #[],.pointer (some ⟨bp,0,none⟩)] w0 (fun _ w'=>(∃M',J ((l.length+7)/8) M' w')∨Jx w'):=by
 obtain⟨Vl,hM,hp,jz⟩:=GA _ _ _ h0;have Ul:(kP l).2.1.length=(l.length+7)/8:=by simp[kP,ll]
 refine bh (args:=[_,_]) (fn:=Tryz.f179) Tryz.func179 rfl (n:=19) Tryz.ntmps179 (ak (aj (aX dV rfl rfl rfl Vl rfl (bZ rfl (cf.fL hp) rfl ?_))));refine ax (M:=M) (A:=RT.li) (B:=(RT.bl).sl) dA rfl rfl AS (by decide) (Tk) rfl rfl (by decide) (by assumption) (by repeat (first|exact ao _ _|refine aV (br (by assumption)) ?_)) (fun af4 ack=>?_);refine bw (M:=M) dJ rfl rfl rfl rfl rfl (by assumption) (by repeat (first|exact ao _ _|refine aV (br (by assumption)) ?_)) (fun af5 acm=>?_);refine bz dJ rfl (by assumption) rfl (bI (v':= .int .i64 (((l.length+7)/8:Nat):Int)) (by rw[Ul]) (ae rfl rfl (ad (aW ?_))));refine cX (σ:=Nat) (fun s=>[(0,.func (.yield yl) #[] #[]),(1,.pointer (some ⟨bp,0,none⟩)),(8,.int .i64 (((l.length+7)/8:Nat):Int)),(9,.int .i64 s)]) (fun s w=>(∃M1,J s M1 w)∧s≤(l.length+7)/8) (fun s=>(l.length+7)/8-s) 0 (.cons rfl (.cons rfl (.cons rfl (.cons rfl .nil)))) ?_ ?_
 ·exact⟨⟨_,h0⟩,bC _⟩
 ·rintro k w1 ⟨⟨M1,hJ⟩,hk⟩;refine ak (aj (cj rfl rfl rfl (ad (ak ?_))));refine bK rfl (fun c1=>?_) (fun c1=>?_)
  ·refine aU (ak (aW (ak (aj (ae rfl rfl (ah rfl rfl (ad (ak (aj (ae rfl rfl ?_))))))))));obtain⟨nA,xd,yz,Yx⟩:=GA _ _ _ hJ;refine aX dV rfl rfl rfl nA rfl (ae rfl rfl ?_);refine aT rfl rfl RD (Bz (M:=M1) (k:=k) xd yz lT so AA) (fun u w4 h4=>?_);obtain⟨s4,h4⟩:=h4;rw[if_pos (by unfold Oc;simp;omega),aB]at h4;refine Rg.yield rfl (vs:=[u]) rfl rfl (hy k M1 _ u (Yx _ s4) (by omega) h4) (fun r4 w5 h5=>?_);obtain⟨b,rfl,JG,nR⟩:=h5;refine jx rfl rfl (bI (v':= .bool (decide (¬b=true))) (by simp) (ad ?_));refine bK rfl (fun c3=>?_) (fun c3=>?_)
   ·refine aM ?_;exact yC rfl (.inr (nR (by simpa using c3)))
   ·refine aU (aj (bE rfl rfl rfl (by omega) (ae rfl rfl (ad ?_))));refine⟨rfl,k+1,(.cons rfl (.cons rfl (.cons rfl (.cons rfl .nil)))),?_,?_⟩
    ·exact⟨JG (b5.1 c3),by omega⟩
    ·show _-(k+1)<_-k;omega
  ·refine cK ?_;rw[show k=(l.length+7)/8 from by omega]at hJ;change vv Tryz.prog Tryz.f179 (fun _ w'=>(∃M',J ((l.length+7)/8) M' w')∨Jx w') .normal _ [] _;exact kh rfl (.inl ⟨_,hJ⟩)
end Go.K
namespace Go.K
open Go.Proofs
namespace TKSegH
theorem jQ:TI Tryz.prog 107 (.slice none 0 0) 1 24:=by unfold TI;kernel_rfl
theorem Yy:Enters Tryz.prog 130:=enters Tryz.func130 rfl (by decide)
theorem Yz:Enters Tryz.prog 179:=enters Tryz.func179 rfl (by decide)
end TKSegH
open TKSegH
set_option maxRecDepth 10000
structure oS (M:aI) (w0:World) (v:Value) (bo D bp:Nat) (st:Obj) (vo:Value) (xs:List Po) (M1:aI) (w:World):Prop where
 lt:Lt M1 w
 S:Step M w0 M1 w aD
 mo:M1 bo
 md:M1 D
 mr:M1 (D+1)
 o:w.heap[bo]? =some (.cells #[vo] 107 (0,0))
 d:w.heap[D]? =some (.deferred (some []))
 r:w.heap[D+1]? =some st
 p:w.heap[bp]? =some (.cells #[v] 129 (0,0))
 ne:bo<D∧bp<D∧bo≠bp∧w0.heap.size≤bo∧w0.heap.size≤D
 hk:Own RT.po 153 M1 w (D+2) vo xs
section
variable {M M1 M2:aI} {w0 w w':World} {v vo:Value} {bo D bp:Nat} {st:Obj} {xs:List Po}
theorem oS.step (h:oS M w0 v bo D bp st vo xs M1 w) (s:Step M1 w M2 w' aD):oS M w0 v bo D bp st vo xs M2 w':=
 ⟨s.lt h.lt,h.S.aw s,(s.mem _ (h.lt _ h.mo)).2 h.mo,(s.mem _ (h.lt _ h.md)).2 h.md,(s.mem _ (h.lt _ h.mr)).2 h.mr,s.aN h.o,s.aN h.d,s.aN h.r,s.aN h.p,h.ne,h.hk.a7 s⟩
theorem oS.mv {st':Obj} (h:oS M w0 v bo D bp st vo xs M1 w):oS M w0 v bo D bp st' vo xs M1 (w.putObj (D+1) st'):=by
 have s:Step M1 w M1 (w.putObj (D+1) st') (fun k=>k=D+1):=dK h.mr;obtain⟨e1,e2,e3,e4,e5⟩:=h.ne;exact⟨s.lt h.lt,h.S.cR s (fun k hk=>by subst hk;omega),h.mo,h.md,h.mr,s.bM h.o (by omega),s.bM h.d (by omega),World.putObj_heap_same (al h.r),s.bM h.p (by omega),h.ne,h.hk.step s (fun k qF hh=>by have:=(h.hk.base k qF).1;omega)⟩
theorem oS.grow {GU:Value} {Kj:List Po} (h:oS M w0 v bo D bp st vo xs M1 w) (s:Step M1 w M2 w' (fun k=>vo.ownBlock=some k)) (hk:Own RT.po 153 M2 w' (D+2) GU Kj):
  (w'.heap[bo]? =some (.cells #[vo] 107 (0,0))∧M2 bo)∧∀{w2:World},Step M2 w' M2 w2 (fun k=>k=bo)→w2.heap[bo]? =some (.cells #[GU] 107 (0,0))→oS M w0 v bo D bp st GU Kj M2 w2:=by
 obtain⟨e1,e2,e3,e4,e5⟩:=h.ne;have hn:∀k,vo.ownBlock=some k→D+2≤k:=fun k hk=>(h.hk.base k hk).1
 have dZ:=fun {k:Nat} (hm:M1 k)=>(s.mem k (h.lt k hm)).2 hm
 refine⟨⟨s.bM h.o (fun hh=>by have:=hn _ hh;omega),dZ h.mo⟩,fun {w2} s2 hx=>?_⟩;have S':=h.S.cR s (fun k hk=>by have:=hn k hk;omega)
 exact⟨s2.lt (s.lt h.lt),S'.cR s2 (fun k hk=>by subst hk;exact e4),dZ h.mo,dZ h.md,dZ h.mr,hx,s2.bM (s.bM h.d (fun hh=>by have:=hn _ hh;omega)) (by omega),s2.bM (s.bM h.r (fun hh=>by have:=hn _ hh;omega)) (by omega),s2.bM (s.bM h.p (fun hh=>by have:=hn _ hh;omega)) (Ne.symm e3),h.ne,
  hk.step s2 (fun k qF hh=>by have:=(hk.base k qF).1;omega)⟩
end
def No (M:aI) (w0:World) (l:List Po) (v:Value) (bo D bp:Nat) (st:Obj) (i:Nat) (M1:aI) (w:World):Prop:=
 ∃(vo:Value),oS M w0 v bo D bp st vo (l.take (8*i)) M1 w
theorem RJ {M:aI} {w0 w2 w3:World} {v:Value} {l:List Po} {bo bp:Nat} {st:Obj} (S2:Step M w0 (ins M bo) w2 aD) (s3:Step (ins M bo) w2 (ins M bo) w3 aD) (hM:Lt M w0) (e1:w0.heap.size≤bo) (e2:bo<w2.heap.size) (e3:w2.heap.size≤bp)
  (hO:w2.heap[bo]? =some (.cells #[.slice none 0 0] 107 (0,0))) (hP:w3.heap[bp]? =some (.cells #[v] 129 (0,0))):∃M1,No M w0 l v bo w3.heap.size bp st 0 M1 ((w3.alloc (.deferred (some []))).alloc st):=by
 have sA:Step (ins M bo) w3 (ins (ins M bo) w3.heap.size) (w3.alloc (.deferred (some []))) aD:=(db _ w3 _).own (a8 _) (by simp);have sB:Step (ins (ins M bo) w3.heap.size) (w3.alloc (.deferred (some []))) (ins (ins (ins M bo) w3.heap.size) (w3.heap.size+1)) ((w3.alloc (.deferred (some []))).alloc st) aD:=(db _ _ _).own (by simp) (by simp);have z3:=s3.size;have hp3:=al hP;have S:=((S2.aw s3).aw sA).aw sB;have hD:(w3.alloc (.deferred (some []))).heap[w3.heap.size]? =some (.deferred (some [])):=cz w3 _;have hR:((w3.alloc (.deferred (some []))).alloc st).heap[w3.heap.size+1]? =some st:=by have:=cz (w3.alloc (.deferred (some []))) st;rwa [World.size_alloc]at this
 have z0:=S2.size;exact⟨_,.slice none 0 0,⟨S.lt hM,S,.inr (.inr (.inl rfl)),.inr (.inl rfl),.inl rfl,sB.aN (sA.aN (s3.aN hO)),sB.aN hD,hR,sB.aN (sA.aN hP),by omega,by rw[Nat.mul_zero,List.take_zero];exact dw _ _ _ _ _⟩⟩
set_option maxHeartbeats 2000000 in
theorem GV {M:aI} {w0:World} {v:Value} {l:List Po} (hM:Lt M w0) (hv:cf RT.li M w0 v (kP l)) (lT:eR (-1) l=true) (so:∀p∈l,p.2.length≤1099511627776) (AA:(dy (-1) l).length≤1099511627776) (N9:l.length≤1099511627776):
  Spec Tryz.prog 79 #[v] w0 (fun v' w'=>((RT.po).sl).V M w' l v'∧Step M w0 M w' aD):=by
 refine nv (args:=[_]) (fn:=Tryz.f79) Tryz.func79 rfl (n:=12) Tryz.ntmps79 (ak (aj (ah rfl rfl (ad (ak (aj ?_))))));refine dL M jQ rfl (fun bo w2 IZ Rp hO s2=>?_);refine ad (ak (ak (aj (ae rfl rfl ?_))));refine aT rfl rfl Yy (BH (M:=ins M bo) (s2.lt hM)) (fun r w3 h3=>?_);obtain⟨bp,rfl,hP,hbp,s3⟩:=h3;rw[show v.cells= #[v]from by obtain⟨q,rfl⟩:=cf.fL hv;rfl]at hP;refine ad (aW ?_);refine T.range (gf:=179) (lb:=[.pointer (some ⟨bp,0,none⟩)].toArray) rfl Yz (fun rec mX=>?_);obtain⟨D,hD⟩:∃D,D=w3.heap.size:=⟨_,rfl⟩;rw[←hD]at mX ⊢
 obtain⟨Ms,h0⟩:∃Ms,No M w0 l v bo D bp (.loop (rec .ready none)) 0 Ms ((w3.alloc (.deferred (some []))).alloc (.loop (rec .ready none))):=by
  rw[hD]at mX ⊢;exact RJ s2 s3 hM IZ Rp hbp hO hP
 refine Spec.mono (Ah (J:=No M w0 l v bo D bp (.loop (rec .ready none))) (Jx:=fun _=>False) (fun i M1 w ⟨vo,h⟩=>⟨h.p,h.lt,hv.le (by decide) h.S.le,fun w' s=>⟨vo,h.step s⟩⟩) lT so AA N9 (fun i M1 wr u hJ hi hu=>?_) h0) (fun _ w4 h4=>?_)
 ·obtain⟨vo,h⟩:=hJ;refine lK (ps:=[7]) (vs:=[u]) mX h.r rfl (by decide) (aj (ah rfl rfl (ad ?_)));refine⟨rfl,h.r,?_⟩;have sR:Step M1 wr M1 (wr.putObj (D+1) (.loop (rec .busy none))) (fun k=>k=D+1):=dK h.mr;have lE:=hu.le sR.le;have h1:=h.mv (st':= .loop (rec .busy none));generalize wr.putObj (D+1) _=wB at h1 lE ⊢;refine aW (aj (aX aR rfl rfl rfl h1.o rfl (ae rfl rfl ?_)));refine ch (M:=M1) (base:=D+2) aR eN rfl rfl rfl rfl h1.hk lE (ao _ _) (by simp;omega) (by simp;omega) (by have:=al h1.r;omega) (fun v3 M3 w4 DD s4=>?_);obtain⟨⟨MO,X7⟩,DT⟩:=h1.grow s4 DD;refine cu (M:=M3) jQ rfl rfl MO rfl (by obtain⟨_,_,he,_⟩:=DD.isSlice;rw[he];rfl) X7 (fun w5 hX5 s5=>?_);have h5:=(DT s5 hX5).mv (st':= .loop (rec .ready none));have h6:=DT s5 hX5;refine ad ?_;refine⟨h6.r,true,rfl,fun _=>⟨M3,v3,?_⟩,fun h=>by cases h⟩;rw[show 8*(i+1)=8*i+8 from by omega,List.take_add];exact h5
 ·obtain⟨Mz,vo,h⟩:=h4.resolve_right (fun h=>h);left;rw[aK (by omega)]at h;have h5:=h.mv (st':= .loop (rec .exhausted none));refine⟨h.r,?_⟩;generalize w4.putObj (D+1) _=wE at h5 ⊢;refine ak (aj (aX aR rfl rfl rfl h5.o rfl (ah rfl rfl (ad (aM ?_)))));obtain⟨q1,q2,q3,q4,q5⟩:=h5.ne;have sZ:Step Mz wE Mz (wE.putObj D (.deferred none)) (fun k=>k=D):=dK h5.md;have SZ:=h5.S.cR sZ (fun k hk=>by subst hk;omega);exact AO rfl rfl h5.d ⟨ig hM SZ ((h5.hk.step sZ (fun k hk hh=>by have:=(h5.hk.base k hk).1;omega)).lj (by omega)) (by omega),SZ.back⟩
end Go.K
namespace Go.K
open Go.Proofs
namespace TKSegA
theorem RL:Enters Tryz.prog 120:=enters Tryz.func120 rfl (by decide)
end TKSegA
open TKSegA
set_option maxRecDepth 10000
def Jd (xs:List Int) (i:Int):Int:=if 0≤i∧i<xs.length then xs.getD i.toNat 0 else-1
theorem Cz {M:aI} {xs:List Int} {v0:Value} {i:Int} (w0:World) (hv:((RT.int .i64).sl).V M w0 xs v0):
  Spec Tryz.prog 120 #[v0,.int .i64 i] w0 (fun v w=>v= .int .i64 (Jd xs i)∧w=w0):=by
 have hlen:=dd hv;refine bh (args:=[_,_]) (fn:=Tryz.f120) Tryz.func120 rfl (n:=17) Tryz.ntmps120 (ak (aj (ah rfl rfl (ad (ak (ak (aj (ae rfl rfl (cj rfl rfl rfl (ae rfl rfl ?_))))))))));refine aL (g:=7) rfl (fun fX=>?_) (fun fX=>?_)
 ·refine aq rfl rfl rfl rfl (aq rfl rfl rfl rfl (aq rfl rfl rfl rfl (aq rfl rfl rfl rfl (aP rfl rfl rfl (ad (jH rfl (ak (aj (ah rfl rfl (ad (aM ?_)))))))))));have e:Jd xs i= -1:=by unfold Jd;rw[if_neg (by omega)]
  exact aS rfl rfl ⟨by rw[e],rfl⟩
 ·refine an rfl rfl (ae rfl rfl (an rfl rfl (ae rfl rfl (an rfl rfl (bz au rfl hv rfl (an rfl rfl (dN rfl rfl rfl (aE rfl rfl rfl (ad ?_)))))))));refine bK rfl (fun c1=>?_) (fun c1=>?_)
  ·refine ak (aj (ah rfl rfl (ad (aM ?_))));have e:Jd xs i= -1:=by unfold Jd;rw[if_neg (by omega)]
   exact aS rfl rfl ⟨by rw[e],rfl⟩
  ·refine aU (ak (aj (ae rfl rfl (ae rfl rfl ?_))));refine cb (M:=M) au I3 rfl rfl rfl hv (ao _ _) (by omega) (fun u x hg hu=>?_);refine b4 (M:=M) ay rfl rfl hu (ao _ _) (fun mO=>?_);refine ah rfl rfl (ad (aM ?_));have e:Jd xs i=x:=by unfold Jd;rw[if_pos (by omega),ek,hg];rfl
   exact aS rfl rfl ⟨by rw[e],rfl⟩
theorem DG {M:aI} {s:Se} {v0:Value} (w0:World) (hs:cf RT.se M w0 v0 s):
  Spec Tryz.prog 67 #[v0] w0 (fun v w=>v= .int .i64 (s.1.length:Int)∧w=w0):=by
 refine bh (args:=[_]) (fn:=Tryz.f67) Tryz.func67 rfl (n:=8) Tryz.ntmps67 (ak (aj (ah rfl rfl (ad (ak (aj (ae rfl rfl (bZ rfl hs.fL rfl ?_))))))));refine ax (M:=M) (A:=RT.se) (B:=(RT.int .i64).sl) gg rfl rfl jE (by decide) Wy rfl rfl (by decide) hs (ao _ _) (fun FR oQ=>?_);refine bw (M:=M) au rfl rfl rfl rfl rfl oQ (ao _ _) (fun BI lU=>?_);replace lU:((RT.int .i64).sl).V M _ s.1 BI:=lU;refine bz au rfl lU rfl (ah rfl rfl (ad (aM ?_)));exact aS rfl rfl ⟨rfl,rfl⟩
theorem GW {M:aI} {s:Se} {i:Int} {v0:Value} (w0:World) (hs:cf RT.se M w0 v0 s):
  Spec Tryz.prog 69 #[v0,.int .i64 i] w0 (fun v w=>v= .int .i64 (Jd s.1 i)∧w=w0):=by
 refine bh (args:=[_,_]) (fn:=Tryz.f69) Tryz.func69 rfl (n:=11) Tryz.ntmps69 (ak (aj (ah rfl rfl (ad (ak (aj (ae rfl rfl (bZ rfl hs.fL rfl ?_))))))));refine ax (M:=M) (A:=RT.se) (B:=(RT.int .i64).sl) gg rfl rfl jE (by decide) Wy rfl rfl (by decide) hs (ao _ _) (fun FR oQ=>?_);refine bw (M:=M) au rfl rfl rfl rfl rfl oQ (ao _ _) (fun BI lU=>?_);replace lU:((RT.int .i64).sl).V M _ s.1 BI:=lU;refine ae rfl rfl ?_;refine aT rfl rfl RL (Cz _ lU) (fun r wc hc=>?_);obtain⟨rfl,rfl⟩:=hc;refine ah rfl rfl (ad (aM ?_));exact aS rfl rfl ⟨rfl,rfl⟩
theorem DH {M:aI} {s:Se} {i:Int} {v0:Value} (w0:World) (hs:cf RT.se M w0 v0 s):
  Spec Tryz.prog 70 #[v0,.int .i64 i] w0 (fun v w=>v= .int .i64 (Jd s.2.1 i)∧w=w0):=by
 refine bh (args:=[_,_]) (fn:=Tryz.f70) Tryz.func70 rfl (n:=11) Tryz.ntmps70 (ak (aj (ah rfl rfl (ad (ak (aj (ae rfl rfl (bZ rfl hs.fL rfl ?_))))))));refine ax (M:=M) (A:=RT.se) (B:=(RT.int .i64).sl) gg rfl rfl jE (by decide) se1 rfl rfl (by decide) hs (ao _ _) (fun FR oQ=>?_);refine bw (M:=M) au rfl rfl rfl rfl rfl oQ (ao _ _) (fun BI lU=>?_);replace lU:((RT.int .i64).sl).V M _ s.2.1 BI:=lU;refine ae rfl rfl ?_;refine aT rfl rfl RL (Cz _ lU) (fun r wc hc=>?_);obtain⟨rfl,rfl⟩:=hc;refine ah rfl rfl (ad (aM ?_));exact aS rfl rfl ⟨rfl,rfl⟩
theorem uA {α:Type} {p:α→Bool}:∀{xs:List α} {i:Nat},i≤xs.length→(∀(k:Nat) x,k<i→xs[k]? =some x→p x=true)→(∀(k:Nat) x,i≤k→xs[k]? =some x→p x=false)→xs.countP p=i
 |[],i,hi,_,_=>by simp at hi;simp[hi]
 |x::xs,0,_,_,h2=>by
  rw[List.countP_eq_zero.2];intro a ha;obtain⟨k,hk⟩:=bT.1 ha;simp[h2 k a (bC _) hk]
 |x::xs,i+1,hi,h1,h2=>by
  rw[List.countP_cons_of_pos (h1 0 x (by omega) rfl),uA (by simpa using hi) (fun k y hk hy=>h1 (k+1) y (by omega) (by simpa using hy)) (fun k y hk hy=>h2 (k+1) y (by omega) (by simpa using hy))]
end Go.K
namespace Go.K
open Go.Proofs
namespace TKSegB
theorem Aa:TI Tryz.prog 188 (.slice none 0 0) 1 24:=by unfold TI;kernel_rfl
theorem YA:Enters Tryz.prog 123:=enters Tryz.func123 rfl (by decide)
theorem YB:Enters Tryz.prog 169:=enters Tryz.func169 rfl (by decide)
theorem YC:Enters Tryz.prog 170:=enters Tryz.func170 rfl (by decide)
end TKSegB
open TKSegB
set_option maxRecDepth 10000
def D1 (ns:List (List UInt8)) (k:List UInt8):Nat:=ns.countP fun x=>decide (x<k)
theorem RM {ns:List (List UInt8)} (h:yy ns) {i j:Nat} {x y:List UInt8} (gY:i≤j) (hx:ns[i]? =some x) (hy:ns[j]? =some y): ¬y<x:=by
 rcases np gY with rfl|h1
 ·rw[hx]at hy;cases hy;exact gx x
 ·exact gL (fT h hx hy h1)
theorem yg {ns:List (List UInt8)} (h:yy ns) {k:List UInt8}:(k∈ns→ns[D1 ns k]? =some k)∧∀x,ns[D1 ns k]? =some x→¬x<k:=by
 have key:∀{ns:List (List UInt8)},yy ns→(k∈ns→ns[D1 ns k]? =some k)∧∀x,ns[D1 ns k]? =some x→¬x<k:=by
  intro ns
  induction ns with
  |nil=>exact fun _=>⟨(fun h=>by cases h),fun x h=>by simp at h⟩
  |cons y ns ih=>
   intro h;have h':=hU.1 h;by_cases hy:y<k
   ·have e:D1 (y::ns) k=D1 ns k+1:=by unfold D1;rw[List.countP_cons_of_pos (by simpa using hy)]
    rw[e];simp only[List.getElem?_cons_succ];refine⟨fun hk=>(ih h'.2).1 ?_,(ih h'.2).2⟩;rcases dP.1 hk with rfl|hk
    ·exact absurd hy (gx _)
    ·exact hk
   ·have kO:∀x∈ns,¬x<k:=fun x hx dD=>hy (jq (h'.1 x hx) dD)
    have e:D1 (y::ns) k=0:=by
     unfold D1;rw[List.countP_eq_zero];intro a ha;rcases dP.1 ha with rfl|ha
     ·simpa using hy
     ·simpa using kO a ha
    rw[e];refine⟨fun hk=>?_,fun x hx=>by simp at hx;subst hx;exact hy⟩;rcases dP.1 hk with rfl|hk
    ·rfl
    ·exact absurd (h'.1 k hk) hy
 exact key h
def YD (ns:List (List UInt8)) (k:List UInt8) (i:Nat):Bool:=match ns[i]? with|some x=> !decide (x<k)|none=>true
theorem uB {ns:List (List UInt8)} {k x:List UInt8} {i:Nat} (h:ns[i]? =some x):YD ns k i= !decide (x<k):=by unfold YD;rw[h]
theorem GX {ns:List (List UInt8)} (h:yy ns) {k:List UInt8}:ns[D1 ns k]? =some k↔k∈ns:=⟨fun h=>aH h,(yg h).1⟩
theorem BJ {M:aI} {n:Nat} {g:FuncId} {cap:List Value} {good:Nat→Bool} (w0:World) (hg:Enters Tryz.prog g) (Kl:∀i j,i≤j→j<n→good i=true→good j=true) (hn:n≤4611686018427387904) (ht:∀(i:Nat) w,i<n→Step M w0 M w aD→Spec Tryz.prog g ([.int .i64 (i:Int)]++cap:List Value).toArray w (fun v w'=>v= .bool (good i)∧Step M w M w' aD)):
  Spec Tryz.prog 169 #[.int .i64 (n:Int),.func (.func g) #[] cap.toArray] w0 (fun v w=>∃m:Nat,v= .int .i64 (m:Int)∧m≤n∧(∀i,i<m→good i=false)∧(∀i,m≤i→i<n→good i=true)∧Step M w0 M w aD):=by
 refine bh (args:=[_,_]) (fn:=Tryz.f169) Tryz.func169 rfl (n:=23) Tryz.ntmps169 (ak (aj (ah rfl rfl (ad (ak (aj (ah rfl rfl (ad (ak (aW ?_))))))))));refine cX (σ:=Nat×Nat) (fun q=>[(0,.int .i64 (q.2:Int)),(1,.func (.func g) #[] cap.toArray),(5,.int .i64 (q.1:Int))]) (fun q w=>Step M w0 M w aD∧q.1≤q.2∧q.2≤n∧(∀i,i<q.1→good i=false)∧(∀i,q.2≤i→i<n→good i=true)) (fun q=>q.2-q.1) (0,n) (.cons rfl (.cons rfl (.cons rfl .nil))) ?_ ?_
 ·exact⟨ar _ _,bC _,a8 _,fun i h=>absurd h (sK _),fun i h h'=>by omega⟩
 ·rintro⟨i,j⟩ w ⟨S,gY,hj,h1,h2⟩;dsimp only at gY hj h1 h2 ⊢;refine ak (ak (aj (ae rfl rfl (ae rfl rfl (cj rfl rfl rfl (ad ?_))))));refine bK rfl (fun c2=>?_) (fun c2=>?_)
  ·refine aU (aW (ak (aj (ae rfl rfl (ae rfl rfl (ae rfl rfl (ic rfl rfl rfl (by omega) (Rg.AI rfl rfl rfl (by omega) (bE rfl rfl rfl (by omega) (bI (v':= .int .i64 ((i+(j-i)/2:Nat):Int)) (congrArg _ (by omega)) (ah rfl rfl ?_)))))))))));refine ad (ak (aj (ae rfl rfl (ae rfl rfl ?_))));refine Rg.oH (first:=[]) (captured:=cap) (xs:=[.tmp 17]) rfl rfl rfl hg (vs:=[.int .i64 ((i+(j-i)/2:Nat):Int)]) (ht (i+(j-i)/2) _ (by omega) S) (fun r4 w4 hc=>?_);obtain⟨rfl,s4⟩:=hc;refine bI (v':= .bool (decide (good (i+(j-i)/2)=true))) (by simp) ?_;replace S:=S.aw s4;refine ad ?_;refine bK rfl (fun c4=>?_) (fun c4=>?_)
   ·refine aj (ae rfl rfl (ah rfl rfl (ad ?_)));refine⟨rfl,(i,i+(j-i)/2),(.cons rfl (.cons rfl (.cons rfl .nil))),?_,?_⟩
    ·exact⟨S,by dsimp only;omega,by dsimp only;omega,h1,fun k hk TB=>Kl _ _ hk TB c4⟩
    ·dsimp only;omega
   ·refine aj (ae rfl rfl (bE rfl rfl rfl (by omega) (ah rfl rfl (ad ?_))));refine⟨rfl,(i+(j-i)/2+1,j),(.cons rfl (.cons rfl (.cons rfl .nil))),?_,?_⟩
    ·exact⟨S,by dsimp only;omega,hj,fun k hk=>by
      cases h:good k with
      |false=>rfl
      |true=>exact absurd (Kl k (i+(j-i)/2) (by dsimp only at hk;omega) (by omega) h) c4,h2⟩
    ·dsimp only;omega
  ·refine cK (ak (aj (ae rfl rfl (ah rfl rfl (ad (aM ?_))))));have e:i=j:=by omega
   subst e;exact aS rfl rfl ⟨i,rfl,hj,h1,h2,S⟩
theorem Ai {M:aI} {d:Di} {v0:Value} {i bd bk:Nat} {k x:List UInt8} (w0:World) (hd:cf RT.di M w0 v0 d) (gd:w0.heap[bd]? =some (.cells #[v0] 123 (0,0))) (gk:w0.heap[bk]? =some (.cells #[sv k] 9 (0,0))) (hx:d.1[i]? =some x):
  Spec Tryz.prog 170 #[.int .i64 (i:Int),.pointer (some ⟨bd,0,none⟩),.pointer (some ⟨bk,0,none⟩)] w0 (fun v w=>v= .bool (!decide (x<k))∧Step M w0 M w aD):=by
 have hM:True:=trivial;refine bh (args:=[_,_,_]) (fn:=Tryz.f170) Tryz.func170 rfl (n:=14) Tryz.ntmps170 (ak (aj (ah rfl rfl (ad (ak ?_)))));apply jK mixed rfl rfl;intro A1 Ii;have lr:=Ii M;replace gd:=lr.aN gd;replace gk:=lr.aN gk;replace hd:=hd.le (by decide) lr.le;refine aX eY rfl rfl rfl gd rfl (bI (v':=v0) rfl ?_);refine ad ⟨rfl,rfl,rfl,?_⟩;refine bZ rfl hd.fL rfl ?_;refine ad ⟨rfl,rfl,rfl,?_⟩;refine ax (M:=M) (A:=RT.di) (B:=RT.str.sl) ix rfl rfl uY (by decide) Om rfl rfl (by decide) hd (ao _ _) (fun pn OD=>?_);refine ad ⟨rfl,rfl,rfl,?_⟩;refine bw (M:=M) aC rfl rfl rfl rfl rfl OD (ao _ _) (fun vn qv=>?_);replace qv:(RT.str.sl).V M _ d.1 vn:=qv;refine ad ⟨rfl,rfl,rfl,?_⟩;refine ae rfl rfl ?_;refine ad ⟨rfl,rfl,rfl,?_⟩;have mM:=(av.1 hx).1;refine cb (M:=M) aC I9 rfl rfl rfl qv (ao _ _) (by omega) (fun u a hg hu=>?_);obtain rfl:x=a:=aQ (hx.symm.trans (by simpa using hg));refine ad ⟨rfl,rfl,rfl,?_⟩;refine bw (M:=M) aA rfl rfl rfl rfl rfl hu (ao _ _) (fun vx rZ=>?_);obtain rfl:=dB rZ;refine ad ⟨rfl,rfl,rfl,?_⟩;refine aX aA rfl rfl rfl gk rfl (bI (v':=sv k) rfl ?_);refine ad ⟨rfl,rfl,rfl,?_⟩;refine Rg.FK rfl rfl rfl ?_;refine ad ⟨rfl,rfl,rfl,?_⟩;refine ah rfl rfl ?_;refine ad ⟨rfl,rfl,rfl,?_⟩;refine dr (aM ?_);exact aS rfl rfl ⟨by rw[decide_not],lr⟩
theorem BK {M:aI} {d:Di} {v0:Value} {k:List UInt8} (w0:World) (hM:Lt M w0) (hd:cf RT.di M w0 v0 d) (rM:yy d.1):
  Spec Tryz.prog 123 #[v0,sv k] w0 (fun v w=>v= .tuple #[.int .i64 (D1 d.1 k:Int),.bool (decide (k∈d.1))]∧Step M w0 M w aD):=by
 refine bh (args:=[_,_]) (fn:=Tryz.f123) Tryz.func123 rfl (n:=33) Tryz.ntmps123 ?_;have S:Step M w0 M w0 aD:=(ar _ _).b9 (fun _ h=>h.elim) (fun _ h=>h.elim);refine ak (aj ?_);refine Rg.box M rfl rfl (fun lz kT RN RO kI qj=>?_);replace kI:kT.heap[lz]? =some (.cells #[v0] 123 (0,0)):=by rw[qZ hd]at kI;exact kI
 obtain⟨fp,uC⟩:∃M',M'=ins M lz:=⟨_,rfl⟩;rw[←uC]at qj;have lA:fp lz:=by rw[uC];exact .inl rfl
 replace hd:=hd.le (by decide) qj.le;replace hM:=qj.lt hM;have:=S.size;replace S:=S.aw qj;refine Rg.box fp rfl rfl (fun mq A9 LQ LR eP lv=>?_);obtain⟨ej,kB⟩:∃M',M'=ins fp mq:=⟨_,rfl⟩;rw[←kB]at lv;have ec:ej mq:=by rw[kB];exact .inl rfl
 change A9.heap[mq]? =some (.cells #[sv k] _ _)at eP;have:=al kI;replace lA:=(lv.mem _ this).2 lA;replace kI:=lv.aN kI;replace hd:=hd.le (by decide) lv.le;replace hM:=lv.lt hM;have:=S.size;replace S:=S.aw lv;refine ah rfl rfl (ah rfl rfl (ad (ak (aj (aX eY rfl rfl rfl kI rfl (bI (v':=v0) rfl (bZ rfl hd.fL rfl ?_)))))));refine ax (M:=ej) (A:=RT.di) (B:=RT.str.sl) ix rfl rfl uY (by decide) Om rfl rfl (by decide) hd (ao _ _) (fun pn OD=>?_);refine bw (M:=ej) aC rfl rfl rfl rfl rfl OD (ao _ _) (fun vn qv=>?_);replace qv:(RT.str.sl).V ej _ d.1 vn:=qv;have Of:=dd qv;refine bz aC rfl qv rfl (lD (xs:=[]) (ys:=[.tmp 2,.tmp 3]) rfl rfl rfl ?_)
 refine aT rfl rfl YB (BJ (M:=ej) (n:=d.1.length) (cap:=[.pointer (some ⟨lz,0,none⟩),.pointer (some ⟨mq,0,none⟩)]) (good:=YD d.1 k) _ YC (fun i j gY hj h=>by
  have hi:=aF (show i<d.1.length by omega);have xF:=aF hj;rw[uB hi]at h;rw[uB xF];simp only[o0,decide_eq_false_iff_not]at h ⊢;intro dD;rcases jY d.1[i] d.1[j]with h1|h1|h1
  ·exact h (jq h1 dD)
  ·rw[h1]at h;exact h dD
  ·exact RM rM gY hi xF h1) (by omega) (fun i w hi s=>by
  have hx:=aF hi;rw[uB hx];exact Ai w (hd.le (by decide) s.le) (s.aN kI) (s.aN eP) hx)) (fun r1 w1 hc=>?_)
 obtain⟨m,rfl,hm,Km,GY,s1⟩:=hc;have em:D1 d.1 k=m:=uA hm (fun i x hi hx=>by have:=Km i hi;rw[uB hx]at this;simpa using this) (fun i x hi hx=>by have:=GY i hi (av.1 hx).1;rw[uB hx]at this;simpa using this);have:=al kI;replace lA:=(s1.mem _ this).2 lA;replace kI:=s1.aN kI;have:=al eP;replace ec:=(s1.mem _ this).2 ec;replace eP:=s1.aN eP;replace hd:=hd.le (by decide) s1.le;replace hM:=s1.lt hM;have:=S.size;replace S:=S.aw s1;refine ah rfl rfl (ad (ak ?_));apply jK mixed rfl rfl;intro YE YF;have D2:=YF ej;have:=al kI;replace lA:=(D2.mem _ this).2 lA;replace kI:=D2.aN kI;have:=al eP;replace ec:=(D2.mem _ this).2 ec;replace eP:=D2.aN eP;replace hd:=hd.le (by decide) D2.le;replace hM:=D2.lt hM;have:=S.size;replace S:=S.aw D2;refine ae rfl rfl ?_;refine ad ⟨rfl,rfl,rfl,?_⟩;refine ae rfl rfl ?_;refine ad ⟨rfl,rfl,rfl,?_⟩;refine aX eY rfl rfl rfl kI rfl (bI (v':=v0) rfl ?_);refine ad ⟨rfl,rfl,rfl,?_⟩;refine bZ rfl hd.fL rfl ?_;refine ad ⟨rfl,rfl,rfl,?_⟩;refine ax (M:=ej) (A:=RT.di) (B:=RT.str.sl) ix rfl rfl uY (by decide) Om rfl rfl (by decide) hd (ao _ _) (fun pn2 YG=>?_);refine ad ⟨rfl,rfl,rfl,?_⟩;refine bw (M:=ej) aC rfl rfl rfl rfl rfl YG (ao _ _) (fun vn2 Np=>?_);replace Np:(RT.str.sl).V ej _ d.1 vn2:=Np;refine ad ⟨rfl,rfl,rfl,?_⟩;refine bz aC rfl Np rfl ?_;refine ad ⟨rfl,rfl,rfl,?_⟩;refine cj rfl rfl rfl ?_;refine ad ⟨rfl,rfl,rfl,?_⟩;refine ae rfl rfl ?_;refine ad ⟨rfl,rfl,rfl,?_⟩;refine aL (g:=22) rfl (fun YH=>?_) (fun YH=>?_)
 ·refine an rfl rfl (aX eY rfl rfl rfl kI rfl (bI (v':=v0) rfl ?_));refine ad ⟨rfl,rfl,rfl,?_⟩;refine an rfl rfl (bZ rfl hd.fL rfl ?_);refine ad ⟨rfl,rfl,rfl,?_⟩;refine an rfl rfl ?_;refine ax (M:=ej) (A:=RT.di) (B:=RT.str.sl) ix rfl rfl uY (by decide) Om rfl rfl (by decide) hd (ao _ _) (fun pn3 YI=>?_);refine ad ⟨rfl,rfl,rfl,?_⟩;refine an rfl rfl ?_;refine bw (M:=ej) aC rfl rfl rfl rfl rfl YI (ao _ _) (fun vn3 Nq=>?_);replace Nq:(RT.str.sl).V ej _ d.1 vn3:=Nq;refine ad ⟨rfl,rfl,rfl,?_⟩;refine an rfl rfl (ae rfl rfl ?_);refine ad ⟨rfl,rfl,rfl,?_⟩;refine an rfl rfl ?_;refine cb (M:=ej) aC I9 rfl rfl rfl Nq (ao _ _) (by omega) (fun u2 x rN jB=>?_);rw[aB]at rN;refine ad ⟨rfl,rfl,rfl,?_⟩;refine an rfl rfl ?_;refine bw (M:=ej) aA rfl rfl rfl rfl rfl jB (ao _ _) (fun vx rZ=>?_);obtain rfl:=dB rZ;refine ad ⟨rfl,rfl,rfl,?_⟩;refine an rfl rfl (aX aA rfl rfl rfl eP rfl (bI (v':=sv k) rfl ?_));refine ad ⟨rfl,rfl,rfl,?_⟩;refine an rfl rfl (Rg.rn rfl rfl rfl ?_);refine ad ⟨rfl,rfl,rfl,?_⟩;refine aP rfl rfl rfl ?_;refine ad ⟨rfl,rfl,rfl,?_⟩;refine ah rfl rfl ?_;refine ad ⟨rfl,rfl,rfl,?_⟩;refine ah rfl rfl ?_;refine ad ⟨rfl,rfl,rfl,?_⟩;refine dr (aM ?_);rw[←em]at*
  first
  |(have e:decide (x=k)=decide (k∈d.1):=decide_eq_decide.2 (by rw[←GX rM,rN];simp)
    exact eA rfl rfl rfl ⟨by rw[e],S.back⟩)
  |(have e:k∉d.1:=fun h=>by have:=(yg rM).1 h;have:=(av.1 this).1;omega
    exact eA rfl rfl rfl ⟨by rw[decide_eq_false e],S.back⟩)
 ·refine aq rfl rfl rfl rfl ?_;refine ad ⟨rfl,rfl,rfl,?_⟩;refine aq rfl rfl rfl rfl ?_;refine ad ⟨rfl,rfl,rfl,?_⟩;refine aq rfl rfl rfl rfl ?_;refine ad ⟨rfl,rfl,rfl,?_⟩;refine aq rfl rfl rfl rfl ?_;refine ad ⟨rfl,rfl,rfl,?_⟩;refine aq rfl rfl rfl rfl ?_;refine ad ⟨rfl,rfl,rfl,?_⟩;refine aq rfl rfl rfl rfl ?_;refine ad ⟨rfl,rfl,rfl,?_⟩;refine aq rfl rfl rfl rfl ?_;refine ad ⟨rfl,rfl,rfl,?_⟩;refine aq rfl rfl rfl rfl ?_;refine ad ⟨rfl,rfl,rfl,?_⟩;refine aq rfl rfl rfl rfl ?_;refine ad ⟨rfl,rfl,rfl,?_⟩;refine aE rfl rfl rfl ?_;refine ad ⟨rfl,rfl,rfl,?_⟩;refine ah rfl rfl ?_;refine ad ⟨rfl,rfl,rfl,?_⟩;refine ah rfl rfl ?_;refine ad ⟨rfl,rfl,rfl,?_⟩;refine dr (aM ?_);rw[←em]at*
  first
  |(have e:decide (x=k)=decide (k∈d.1):=decide_eq_decide.2 (by rw[←GX rM,rN];simp)
    exact eA rfl rfl rfl ⟨by rw[e],S.back⟩)
  |(have e:k∉d.1:=fun h=>by have:=(yg rM).1 h;have:=(av.1 this).1;omega
    exact eA rfl rfl rfl ⟨by rw[decide_eq_false e],S.back⟩)
theorem find_spec {M:aI} {d:Di} {v0:Value} {k:List UInt8} (w0:World) (hM:Lt M w0) (hd:cf RT.di M w0 v0 d) (rM:yy d.1) (hl:d.1.length=d.2.length):
  Spec Tryz.prog 73 #[v0,sv k] w0 (fun v w=>Step M w0 M w aD∧((∃(j:Nat) (p:Value) (t:Li),v= .tuple #[p,.bool true]∧d.1[j]? =some k∧d.2[j]? =some t∧cf RT.li M w p t)∨(v= .tuple #[.pointer none,.bool false]∧k∉d.1))):=by
 refine bh (args:=[_,_]) (fn:=Tryz.f73) Tryz.func73 rfl (n:=25) Tryz.ntmps73 ?_;have S:Step M w0 M w0 aD:=(ar _ _).b9 (fun _ h=>h.elim) (fun _ h=>h.elim);refine ak (aj (ah rfl rfl (ah rfl rfl (ad (ak (aj (ae rfl rfl (ae rfl rfl ?_))))))));refine aT rfl rfl YA (BK _ hM hd rM) (fun r1 w1 hc=>?_);obtain⟨rfl,s1⟩:=hc;replace hd:=hd.le (by decide) s1.le;replace hM:=s1.lt hM;have:=S.size;replace S:=S.aw s1;refine ae rfl rfl (bR rfl rfl rfl (bR rfl rfl rfl (ah rfl rfl (ah rfl rfl (ad (ak (ak (aj (ae rfl rfl (jx rfl rfl (bI (v':= .bool (decide (k∉d.1))) (by simp) ?_)))))))))));refine ad ?_;refine bK rfl (fun c2=>?_) (fun c2=>?_)
 ·refine ak (aj (ah rfl rfl (ad (ak (aj (ae rfl rfl (ah rfl rfl (ah rfl rfl (ad (aM ?_))))))))));exact eA rfl rfl rfl ⟨S,.inr ⟨rfl,c2⟩⟩
 ·refine aU (ak (aj (ae rfl rfl (bZ rfl hd.fL rfl ?_))));refine ax (M:=M) (A:=RT.di) (B:=((RT.li).ptr).sl) ix rfl rfl Aa (by decide) di1 rfl rfl (by decide) hd (ao _ _) (fun pt OK=>?_);refine bw (M:=M) dz rfl rfl rfl rfl rfl OK (ao _ _) (fun vt Je=>?_);replace Je:(((RT.li).ptr).sl).V M _ d.2 vt:=Je;refine ae rfl rfl ?_;have hk:=(yg rM).1 (b5.1 c2);have DV:=(av.1 hk).1;refine cb (M:=M) dz vE rfl rfl rfl Je (ao _ _) (by omega) (fun u5 t C9 Da=>?_);rw[aB]at C9;refine bw (M:=M) dV rfl rfl rfl rfl rfl Da (ao _ _) (fun vp RP=>?_);have YJ:=rE.1 RP;refine ah rfl rfl (ah rfl rfl (ad (aM ?_)));exact eA rfl rfl rfl ⟨S,.inl ⟨_,_,t,rfl,hk,C9,YJ⟩⟩
end Go.K
namespace Go.K
open Go.Proofs
namespace TKSegC
theorem Aa:TI Tryz.prog 188 (.slice none 0 0) 1 24:=by unfold TI;kernel_rfl
end TKSegC
open TKSegC
set_option maxRecDepth 10000
theorem uD {M:aI} {d:Di} {vd:Value} {bi bd yl:Nat} {wv:World} {J:Nat→World→Prop} {Jx:World→Prop} (w0:World) (hd:cf RT.di M wv vd d) (hl:d.1.length=d.2.length) (jz:∀i w w',J i w→Step aD w aD w' aD→J i w') (GA:∀i w,J i w→w.heap[bi]? =some (.cells #[.int .i64 0] 3 (0,0))∧w.heap[bd]? =some (.cells #[vd] 123 (0,0))∧Le M wv M w) (hy:∀(i:Nat) (w:World) x t vt,J i w→d.1[i]? =some x→d.2[i]? =some t→cf RT.li M w vt t→tf Tryz.prog yl [sv x,vt].toArray w (fun r w'=>∃b,r= .bool b∧(b=true→J (i+1) w')∧(b=false→Jx w'))) (h0:J 0 w0):
  Spec Tryz.prog 129 #[.func (.yield yl) #[] #[],.pointer (some ⟨bi,0,none⟩),.pointer (some ⟨bd,0,none⟩)] w0 (fun _ w=>J d.1.length w∨Jx w):=by
 refine bh (args:=[_,_,_]) (fn:=Tryz.f129) Tryz.func129 rfl (n:=33) Tryz.ntmps129 (ak (aj (aX ay rfl rfl rfl (GA _ _ h0).1 rfl (bI (v':= .int .i64 0) rfl (Rg.max2 rfl rfl rfl (ah rfl rfl (ad (aW ?_))))))));refine cX (σ:=Nat) (fun s=>[(0,.func (.yield yl) #[] #[]),(1,.pointer (some ⟨bi,0,none⟩)),(2,.pointer (some ⟨bd,0,none⟩)),(4,.int .i64 (s:Int))]) (fun s w=>J s w∧s≤d.1.length) (fun s=>d.1.length-s) 0 (.cons rfl (.cons rfl (.cons rfl (.cons rfl .nil)))) ?_ ?_
 ·exact⟨h0,bC _⟩
 ·rintro k w ⟨hJ,hk⟩;obtain⟨gi,gd,hle⟩:=GA _ _ hJ;have hdl:d.1.length≤140737488355328:=by obtain⟨b,o,vs,_,_,⟨va,vb,_,⟨a,cap,_,_,h,_⟩,_⟩,_⟩:=hd;exact h
  refine ak (ak (aj (ae rfl rfl (aX eY rfl rfl rfl gd rfl (bI (v':=vd) rfl (bZ rfl hd.fL rfl ?_))))));refine ax (M:=M) (A:=RT.di) (B:=RT.str.sl) ix rfl rfl uY (by decide) Om rfl rfl (by decide) hd hle (fun pn OD=>?_);refine bw (M:=M) aC rfl rfl rfl rfl rfl OD (ao _ _) (fun vn qv=>?_);replace qv:(RT.str.sl).V M _ d.1 vn:=qv;refine bz aC rfl qv rfl (cj rfl rfl rfl (ad ?_));refine bK rfl (fun c1=>?_) (fun c1=>?_)
  ·refine aU (ak (aW (ak ?_)));apply T.B3 15 mixed rfl rfl rfl rfl rfl;intro PG JI;have oa:=JI M;refine ae rfl rfl ?_;refine ad ⟨rfl,rfl,rfl,?_⟩;replace hJ:=jz _ _ _ hJ (JI aD);clear gi gd hle;obtain⟨gi,gd,hle⟩:=GA _ _ hJ;refine aX eY rfl rfl rfl gd rfl (bI (v':=vd) rfl ?_);refine ad ⟨rfl,rfl,rfl,?_⟩;refine bZ rfl hd.fL rfl ?_;refine ad ⟨rfl,rfl,rfl,?_⟩;refine ax (M:=M) (A:=RT.di) (B:=RT.str.sl) ix rfl rfl uY (by decide) Om rfl rfl (by decide) hd hle (fun pm O5=>?_);refine ad ⟨rfl,rfl,rfl,?_⟩;refine bw (M:=M) aC rfl rfl rfl rfl rfl O5 (ao _ _) (fun vm YK=>?_);replace YK:(RT.str.sl).V M _ d.1 vm:=YK;refine ad ⟨rfl,rfl,rfl,?_⟩;refine ae rfl rfl ?_;refine ad ⟨rfl,rfl,rfl,?_⟩;refine cb (M:=M) aC I9 rfl rfl rfl YK (ao _ _) (by omega) (fun u3 x HA gy=>?_);rw[aB]at HA;refine ad ⟨rfl,rfl,rfl,?_⟩;refine bw (M:=M) aA rfl rfl rfl rfl rfl gy (ao _ _) (fun vx rZ=>?_);obtain rfl:=dB rZ;refine ad ⟨rfl,rfl,rfl,?_⟩;refine aX eY rfl rfl rfl gd rfl (bI (v':=vd) rfl ?_);refine ad ⟨rfl,rfl,rfl,?_⟩;refine bZ rfl hd.fL rfl ?_;refine ad ⟨rfl,rfl,rfl,?_⟩;refine ax (M:=M) (A:=RT.di) (B:=((RT.li).ptr).sl) ix rfl rfl Aa (by decide) di1 rfl rfl (by decide) hd hle (fun pt OK=>?_);refine ad ⟨rfl,rfl,rfl,?_⟩;refine bw (M:=M) dz rfl rfl rfl rfl rfl OK (ao _ _) (fun vt Je=>?_);replace Je:(((RT.li).ptr).sl).V M _ d.2 vt:=Je;refine ad ⟨rfl,rfl,rfl,?_⟩;refine ae rfl rfl ?_;refine ad ⟨rfl,rfl,rfl,?_⟩;refine cb (M:=M) dz vE rfl rfl rfl Je (ao _ _) (by omega) (fun u4 t yw Hz=>?_);rw[aB]at yw;refine ad ⟨rfl,rfl,rfl,?_⟩;refine bw (M:=M) dV rfl rfl rfl rfl rfl Hz (ao _ _) (fun vp RP=>?_)
   refine ad ⟨rfl,rfl,rfl,?_⟩;refine dr ?_;refine Rg.yield rfl (vs:=[sv x,vp]) rfl rfl (hy k _ x t vp hJ HA yw (rE.1 RP)) (fun r5 w5 h5=>?_);obtain⟨b,rfl,JG,nR⟩:=h5;refine jx rfl rfl (bI (v':= .bool (decide (¬b=true))) (by simp) (ad ?_));refine bK rfl (fun c3=>?_) (fun c3=>?_)
   ·refine aM ?_;exact yC rfl (.inr (nR (by simpa using c3)))
   ·refine aU (aj (ae rfl rfl (bE rfl rfl rfl (by omega) (ah rfl rfl (ad ?_)))));refine⟨rfl,k+1,(.cons rfl (.cons rfl (.cons rfl (.cons rfl .nil)))),?_,?_⟩
    ·exact⟨JG (b5.1 c3),by omega⟩
    ·omega
  ·refine cK ?_
   first|refine fP.nil ?_|simp+decide only[xu,l0,if_true,if_false]|skip
   have e:k=d.1.length:=by omega
   subst e;exact kh rfl (.inl hJ)
theorem xj {M:aI} {d:Di} {vd:Value} (w0:World) (hM:Lt M w0) (hd:cf RT.di M w0 vd d):
  Spec Tryz.prog 78 #[vd,.int .i64 0] w0 (fun v w=>∃bi bd,v= .func (.func 129) #[] [.pointer (some ⟨bi,0,none⟩),.pointer (some ⟨bd,0,none⟩)].toArray∧w.heap[bi]? =some (.cells #[.int .i64 0] 3 (0,0))∧w.heap[bd]? =some (.cells #[vd] 123 (0,0))∧w0.heap.size≤bi∧w0.heap.size≤bd∧Step M w0 M w aD):=by
 refine bh (args:=[_,_]) (fn:=Tryz.f78) Tryz.func78 rfl (n:=6) Tryz.ntmps78 (ak (aj ?_));refine Rg.box M rfl rfl (fun bd w1 p1 q1 g1 s1=>?_);rw[qZ hd]at g1;replace s1:=s1.back;refine Rg.box M rfl rfl (fun bi w2 p2 q2 g2 s2=>?_);replace s2:=s2.back;replace g2:w2.heap[bi]? =some (.cells #[.int .i64 0] 3 (0,0)):=g2;refine ah rfl rfl (ad (ak (aj (lD (xs:=[]) (ys:=[.tmp 3,.tmp 2]) rfl rfl rfl (ah rfl rfl (ad (aM ?_)))))));exact aS rfl rfl ⟨bi,bd,rfl,g2,s2.aN g1,by have:=s1.size;omega,p1,s1.aw s2⟩
end Go.K
namespace Go.K
open Go.Proofs
namespace TKSegD
theorem BL:TI Tryz.prog 123 (.pointer none) 1 8:=by unfold TI;kernel_rfl
theorem YL:Enters Tryz.prog 77:=enters Tryz.func77 rfl (by decide)
theorem YM:Enters Tryz.prog 78:=enters Tryz.func78 rfl (by decide)
theorem Nr:Enters Tryz.prog 129:=enters Tryz.func129 rfl (by decide)
end TKSegD
open TKSegD
set_option maxRecDepth 10000
theorem GZ {M:aI} {w:World} {xs:List (List UInt8)} {v:Value} (h:(RT.str.sl).V M w xs v):∀x∈xs,x.length≤140737488355328:=fun x hx=>by
 obtain⟨a,cap,_,_,_,hs⟩:=gO.1 h;rcases hs with rfl|⟨b,o,_,_,he⟩
 ·cases hx
 ·obtain⟨i,hi⟩:=bT.1 hx;obtain⟨vs,⟨_,h1⟩,_⟩:=he i x hi;exact h1
theorem G0 {M:aI} {w:World} {v:Value} {d:Di} (h:cf RT.di M w v d):(∀x∈d.1,x.length≤140737488355328)∧d.1.length≤140737488355328:=by
 obtain⟨b,o,vs,_,_,⟨va,vb,_,h1,_⟩,_⟩:=h;have hv:(RT.str.sl).V M w d.1 ((RT.str.sl).val va):=⟨va,h1,rfl⟩;exact⟨GZ hv,dd hv⟩
structure G1 {α:Type} (A:RT α) (e T:TypeId) (M:aI) (w0:World) (bo bi bd D:Nat) (vd:Value) (st:Loop) (vo:Value) (xs:List α) (M':aI) (w:World):Prop where
 lt:Lt M' w
 S:Step M w0 M' w aD
 o:w.heap[bo]? =some (.cells #[vo] T (0,0))
 mo:M' bo
 r:w.heap[D+1]? =some (.loop st)
 mr:M' (D+1)
 d:w.heap[D]? =some (.deferred (some []))
 md:M' D
 own:Own A e M' w w0.heap.size vo xs
 gi:w.heap[bi]? =some (.cells #[.int .i64 0] 3 (0,0))
 gd:w.heap[bd]? =some (.cells #[vd] 123 (0,0))
 fi: ¬M' bi
 fd: ¬M' bd
 z:w0.heap.size≤bo∧w0.heap.size≤D
section
variable {α:Type} {A:RT α} {e T:TypeId} {M M1 M2 N:aI} {w0 w w':World} {bo bi bd D:Nat} {vd:Value} {st:Loop} {vo:Value} {xs:List α}
theorem G1.a7 (h:G1 A e T M w0 bo bi bd D vd st vo xs M1 w) (s:Step M1 w M2 w' aD):G1 A e T M w0 bo bi bd D vd st vo xs M2 w':=
 ⟨s.lt h.lt,h.S.aw s,s.aN h.o,(s.mem _ (al h.o)).2 h.mo,s.aN h.r,(s.mem _ (al h.r)).2 h.mr,s.aN h.d,(s.mem _ (al h.d)).2 h.md,h.own.a7 s,s.aN h.gi,s.aN h.gd,fun hn=>h.fi ((s.mem _ (al h.gi)).1 hn),fun hn=>h.fd ((s.mem _ (al h.gd)).1 hn),h.z⟩
theorem G1.mv {st':Loop} (h:G1 A e T M w0 bo bi bd D vd st vo xs M1 w):G1 A e T M w0 bo bi bd D vd st' vo xs M1 (w.putObj (D+1) (.loop st')):=by
 have s:Step M1 w M1 (w.putObj (D+1) (.loop st')) (fun k=>k=D+1):=dK h.mr;obtain⟨z1,z2⟩:=h.z;refine⟨s.lt h.lt,h.S.cR s (fun k (hk:k=D+1)=>by omega),s.bM h.o (fun(hn:bo=D+1)=>by have h1:=h.o;rw[hn,h.r]at h1;cases h1),h.mo,World.putObj_heap_same (al h.r),h.mr,s.bM h.d (fun(hn:D=D+1)=>by omega),h.md,h.own.step s (fun b hb (hn:b=D+1)=>?_),s.bM h.gi (fun(hn:bi=D+1)=>by have h1:=h.gi;rw[hn,h.r]at h1;cases h1),s.bM h.gd (fun(hn:bd=D+1)=>by have h1:=h.gd;rw[hn,h.r]at h1;cases h1),h.fi,h.fd,h.z⟩;obtain⟨cs,hc⟩:=h.own.isCells hb;rw[hn,h.r]at hc;cases hc
theorem G1.grow {GU:Value} {Kj:List α} (hT:T≠e) (h:G1 A e T M w0 bo bi bd D vd st vo xs M1 w) (s:Step M1 w M2 w' (iH vo)) (ho:Own A e M2 w' w0.heap.size GU Kj):
  (w'.heap[bo]? =some (.cells #[vo] T (0,0))∧M2 bo)∧∀{w2:World},Step M2 w' M2 w2 (fun k=>k=bo)→w2.heap[bo]? =some (.cells #[GU] T (0,0))→G1 A e T M w0 bo bi bd D vd st GU Kj M2 w2:=by
 obtain⟨z1,z2⟩:=h.z
 have BM:∀{b:Nat} {o:Obj},w.heap[b]? =some o→(∀cs fr,o≠ .cells cs e fr)→¬iH vo b:=fun {b o} hb eE hn=>by
  obtain⟨⟨C,h1,_⟩,_⟩:=h.own;rcases h1.2 with h3|⟨g,cap,cur,h3,h4,h5,_⟩
  ·unfold iH at hn;rw[h3.1]at hn;cases hn
  ·unfold iH at hn;rw[h3]at hn;cases hn;rw[hb]at h5;exact eE _ _ (aQ h5)
 have nM:∀{b:Nat},¬M1 b→¬iH vo b:=fun hb hn=>hb (h.own.mut_ _ hn)
 have fN:=s.bM h.o (BM h.o (fun cs fr hc=>by injection hc with _ h1 _;exact hT h1));have hr:=s.bM h.r (BM h.r (fun cs fr hc=>by cases hc));have hd:=s.bM h.d (BM h.d (fun cs fr hc=>by cases hc));have BG:=s.bM h.gi (nM h.fi);have qP:=s.bM h.gd (nM h.fd);have RQ: ¬M2 bi:=fun hn=>h.fi ((s.mem _ (al h.gi)).1 hn)
 have Ea: ¬M2 bd:=fun hn=>h.fd ((s.mem _ (al h.gd)).1 hn)
 have D0:=(s.mem _ (al h.o)).2 h.mo;refine⟨⟨fN,D0⟩,fun {w2} s2 hx=>⟨s2.lt (s.lt h.lt),(h.S.cF s h.own (a8 _)).cR s2 (fun k (hk:k=bo)=>by omega),hx,D0,s2.bM hr (fun(hn:D+1=bo)=>by rw[hn,fN]at hr;cases hr),(s.mem _ (al h.r)).2 h.mr,s2.bM hd (fun(hn:D=bo)=>by rw[hn,fN]at hd;cases hd),(s.mem _ (al h.d)).2 h.md,ho.step s2 (fun b hb (hn:b=bo)=>ho.ep fN hT (by rw[←hn];exact hb)),s2.bM BG (fun(hn:bi=bo)=>RQ (by rw[hn];exact D0)),s2.bM qP (fun(hn:bd=bo)=>Ea (by rw[hn];exact D0)),RQ,Ea,h.z⟩⟩
end
theorem YN {α:Type} {A:RT α} {e T:TypeId} {M M1:aI} {w0 w:World} {bo bi bd:Nat} {vd:Value} {st:Loop} (hM:Lt M1 w) (S:Step M w0 M1 w aD) (go:w.heap[bo]? =some (.cells #[.slice none 0 0] T (0,0))) (mo:M1 bo) (gi:w.heap[bi]? =some (.cells #[.int .i64 0] 3 (0,0))) (gd:w.heap[bd]? =some (.cells #[vd] 123 (0,0))) (fi: ¬M1 bi) (fd: ¬M1 bd) (IZ:w0.heap.size≤bo):
  ∃M',G1 A e T M w0 bo bi bd w.heap.size vd st (.slice none 0 0) [] M' ((w.alloc (.deferred (some []))).alloc (.loop st)):=by
 have sA:Step M1 w (ins M1 w.heap.size) (w.alloc (.deferred (some []))) aD:=(db M1 w _).own (a8 _) (by simp);have sB:Step (ins M1 w.heap.size) (w.alloc (.deferred (some []))) (ins (ins M1 w.heap.size) (w.heap.size+1)) ((w.alloc (.deferred (some []))).alloc (.loop st)) aD:=(db _ _ _).own (by simp) (by simp);have hD:(w.alloc (.deferred (some []))).heap[w.heap.size]? =some (.deferred (some [])):=cz w _;have hR:((w.alloc (.deferred (some []))).alloc (.loop st)).heap[w.heap.size+1]? =some (.loop st):=by have:=cz (w.alloc (.deferred (some []))) (.loop st);rwa [World.size_alloc]at this
 have SS:=(S.aw sA).aw sB;have hi:=al gi;have hd:=al gd;refine⟨_,sB.lt (sA.lt hM),SS,sB.aN (sA.aN go),.inr (.inr mo),hR,.inl rfl,sB.aN hD,.inr (.inl rfl),dw _ _ _ _ _,sB.aN (sA.aN gi),sB.aN (sA.aN gd),?_,?_,IZ,S.size⟩
 ·rintro(h|h|h)
  ·omega
  ·omega
  ·exact fi h
 ·rintro(h|h|h)
  ·omega
  ·omega
  ·exact fd h
theorem uE {M:aI} {d:Di} {v0:Value} (w0:World) (hM:Lt M w0) (hd:cf RT.di M w0 v0 d) (hdl:d.1.length=d.2.length) (hd6:d.1.length≤1000000000):
  Spec Tryz.prog 77 #[v0] w0 (fun v w=>(RT.str.sl).V M w d.1 v∧Step M w0 M w aD):=by
 have fR:=hM;obtain⟨D4,_⟩:=G0 hd;refine nv (args:=[_]) (fn:=Tryz.f77) Tryz.func77 rfl (n:=14) Tryz.ntmps77 ?_;have S:Step M w0 M w0 aD:=(ar _ _).b9 (fun _ h=>h.elim) (fun _ h=>h.elim);refine ak (aj (ah rfl rfl (ad (ak (aj ?_)))));refine dL M uY rfl (fun gv y6 Lw Lx iY kR=>?_);obtain⟨kx,ky⟩:∃M',M'=ins M gv:=⟨_,rfl⟩;rw[←ky]at kR;have gI:kx gv:=by rw[ky];exact .inl rfl
 change y6.heap[gv]? =some (.cells #[.slice none 0 0] _ _)at iY;replace hM:=kR.lt hM;have:=S.size;replace S:=S.aw kR;refine ad (ak (ak (aj (ae rfl rfl ?_))));refine aT rfl rfl YM (xj (M:=kx) _ hM (hd.le (by decide) kR.le)) (fun r2 w2 hc=>?_);obtain⟨bi,bd,rfl,gi,gd,hbi,hbd,s2⟩:=hc;have fi: ¬kx bi:=fun h=>by have:=hM _ h;omega
 have fd: ¬kx bd:=fun h=>by have:=hM _ h;omega
 replace fi: ¬kx bi:=fi;have:=al iY;replace gI:=(s2.mem _ this).2 gI;replace iY:=s2.aN iY;replace hM:=s2.lt hM;have:=S.size;replace S:=S.aw s2;refine ad (aW ?_);refine T.range (gf:=129) (lb:=[.pointer (some ⟨bi,0,none⟩),.pointer (some ⟨bd,0,none⟩)].toArray) rfl Nr (fun rec mX=>?_);obtain⟨D,hD⟩:∃D,D=w2.heap.size:=⟨_,rfl⟩;obtain⟨Mr,h0⟩:=YN (A:=RT.str) (e:=9) (st:=rec .ready none) hM S iY gI gi gd fi fd (by omega);rw[←hD]at mX h0 ⊢;refine Spec.mono (uD (wv:=w0) (M:=M) (J:=fun i w=>∃M' vo,G1 (RT.str) 9 55 M w0 gv bi bd D v0 (rec .ready none) vo (d.1.take i) M' w) (Jx:=fun _=>False) _ hd hdl (fun i w w' ⟨M',vo,h⟩ s=>⟨M',vo,h.a7 (s.any M')⟩) (fun i w ⟨M',vo,h⟩=>⟨h.gi,h.gd,h.S.back.le⟩) (fun i wr x t vt hJ hx ht hp=>?_) ⟨Mr,_,h0⟩) (fun _ w3 h3=>?_)
 ·obtain⟨M',vo,h⟩:=hJ;refine lK (ps:=[7,8]) (vs:=[sv x,vt]) mX h.r rfl (by decide) (aj (ah rfl rfl (ad ?_)));refine⟨rfl,h.r,?_⟩;have h4:=h.mv (st':=rec .busy none);have s4:Step M' wr M' (wr.putObj (D+1) (.loop (rec .busy none))) (fun k=>k=D+1):=dK h.mr;generalize wr.putObj (D+1) _=w4 at h4 s4 ⊢;refine aW (aj (aX aC rfl rfl rfl h4.o rfl (bI (v':=vo) rfl (ae rfl rfl ?_))));refine dQ (A:=RT.str) (hn:=by decide) (M:=M') aC I9 (by decide) rfl rfl h4.lt (iM.2 ⟨rfl,D4 x (aH hx)⟩) (.inr ⟨rfl,rfl⟩) (fun u5 w5 Da s5=>?_);have h6:=h4.a7 s5;have mM:=(av.1 hx).1;refine ch (M:=M') (base:=w0.heap.size) aC I9 rfl rfl rfl rfl h6.own Da (ao _ _) (by simp;omega) (by simp;omega) h6.S.size (fun v6 M6 w6 rC s6=>?_);obtain⟨⟨go6,mo6⟩,DT⟩:=h6.grow (by decide) s6 rC;refine cu (M:=M6) uY rfl rfl go6 rfl (by obtain⟨_,_,he,_⟩:=rC.isSlice;rw[he];rfl) mo6 (fun w7 g7 s7=>?_);refine ad ?_;have h8:=(DT s7 g7).mv (st':=rec .ready none);exact⟨(DT s7 g7).r,true,rfl,fun _=>⟨M6,v6,by rw[bc,hx,bY];exact h8⟩,fun h=>by cases h⟩
 ·obtain⟨M',vo,h⟩:=h3.resolve_right id;left;refine⟨h.r,?_⟩;have h5:=h.mv (st':=rec .exhausted none);generalize w3.putObj (D+1) _=wE at h5 ⊢;refine ak (aj (aX aC rfl rfl rfl h5.o rfl (bI (v':=vo) rfl (ah rfl rfl (ad (aM ?_))))));have sE:Step M' wE M' (wE.putObj D (.deferred none)) (fun k=>k=D):=dK h5.md;have hz:=h5.z;have hS:=h5.S.cR sE (fun k (hk:k=D)=>by omega)
  have ho:=h5.own.step sE (fun b hb (hn:b=D)=>by
   obtain⟨cs,hc⟩:=h5.own.isCells hb;rw[hn,h5.d]at hc;cases hc)
  rw[aK (a8 _)]at ho;exact AO rfl rfl h5.d ⟨ho.close fR hS (by omega),hS.back⟩
theorem BN {M:aI} {s:Se} {v0:Value} (w0:World) (hM:Lt M w0) (hdl:s.2.2.1.length=s.2.2.2.length) (hd6:s.2.2.1.length≤1000000000) (hs:cf RT.se M w0 v0 s):
  Spec Tryz.prog 68 #[v0] w0 (fun v w=>(RT.str.sl).V M w s.2.2.1 v∧Step M w0 M w aD):=by
 refine bh (args:=[_]) (fn:=Tryz.f68) Tryz.func68 rfl (n:=8) Tryz.ntmps68 (ak (aj (ah rfl rfl (ad (ak (aj (ae rfl rfl (bZ rfl hs.fL rfl ?_))))))));refine ax (M:=M) (A:=RT.se) (B:=(RT.di).ptr) gg rfl rfl BL (by decide) Tx rfl rfl (by decide) hs (ao _ _) (fun FR oQ=>?_);refine bw (M:=M) eY rfl rfl rfl rfl rfl oQ (ao _ _) (fun vd RR=>?_);refine aT rfl rfl YL (uE _ hM (rE.1 RR) hdl hd6) (fun r wc hc=>?_);obtain hc:=hc;refine ah rfl rfl (ad (aM ?_));exact aS rfl rfl hc
end Go.K
namespace Go.K
open Go.Proofs
namespace TKSegE
theorem BL:TI Tryz.prog 123 (.pointer none) 1 8:=by unfold TI;kernel_rfl
theorem E73:Enters Tryz.prog 73:=enters Tryz.func73 rfl (by decide)
theorem E75:Enters Tryz.prog 75:=enters Tryz.func75 rfl (by decide)
end TKSegE
open TKSegE
set_option maxRecDepth 10000
def Jf (ns:List (List UInt8)) (ls:List (List Po)) (k:List UInt8):List Po:=match (ns.zip ls).find? (fun p=>decide (p.1=k))with|some p=>p.2|none=>[]
theorem G2 {ns:List (List UInt8)} (hn:ns.Nodup) {ls:List (List Po)} {k:List UInt8} {j:Nat} {l:List Po} (h:ns[j]? =some k) (hl:ls[j]? =some l):Jf ns ls k=l:=by
 have:∀{ns:List (List UInt8)} {ls:List (List Po)} {j:Nat},ns.Nodup→ns[j]? =some k→ls[j]? =some l→(ns.zip ls).find? (fun p=>decide (p.1=k))=some (k,l):=by
  intro ns
  induction ns with
  |nil=>intro ls j _ h;simp at h
  |cons x ns ih=>
   intro ls j hn h hl
   cases ls with
   |nil=>simp at hl
   |cons y ls=>
    cases j with
    |zero=>simp at h hl;subst h;subst hl;simp
    |succ j=>
     have JU:=List.nodup_cons.1 hn;have hk:k∈ns:=aH (by simpa using h);have hx:x≠k:=fun e=>JU.1 (by rw[e];exact hk)
     rw[List.zip_cons_cons,List.find?_cons_of_neg (by simpa using hx)];exact ih JU.2 (by simpa using h) (by simpa using hl)
 unfold Jf;rw[this hn h hl]
theorem Aj {ns:List (List UInt8)} {ls:List (List Po)} {k:List UInt8} (h:k∉ns):Jf ns ls k=[]:=by
 unfold Jf;rw[List.find?_eq_none.2 fun p hp=>by have:=List.of_mem_zip hp;simp;intro e;exact h (e▸this.1)]
theorem Nt {L:List En} (k:List UInt8):Jf (keysOf L) ((keysOf L).map (pk L)) k=pk L k:=by
 by_cases h:k∈keysOf L
 ·obtain⟨j,hj⟩:=bT.1 h;exact G2 (k8 L).nodup hj (by rw[o2,hj];rfl)
 ·rw[Aj h];exact(Cr 0 (fun h'=>h (iT.2 h'))).symm
theorem Nu (l:List Po):ph (kP l).2.1=(l.length:Int):=by
 show ph (ll l ((l.length+7)/8))=_;rw[wK];congr 1;omega
def rO (d:Di) (k:List UInt8) (M:aI) (v:Value) (w:World):Prop:=(∃(j:Nat) (t:Li),d.1[j]? =some k∧d.2[j]? =some t∧cf RT.li M w v t)∨(v= .pointer none∧k∉d.1)
theorem rO.step {d:Di} {k:List UInt8} {M M':aI} {v:Value} {w w':World} (h:rO d k M v w) (s:Step M w M' w' aD):rO d k M' v w':=h.imp (fun⟨j,t,h1,h2,h3⟩=>⟨j,t,h1,h2,h3.le (by decide) s.le⟩) id
theorem DI {M:aI} {t:Fd} (w0:World) (hM:Lt M w0) (h1:t.1.length≤140737488355328) (h2:t.2.length≤140737488355328):
  Spec Tryz.prog 74 #[kv t] w0 (fun v w=>v= .string ⟨(dp t).toArray⟩∧Step M w0 M w aD):=by
 refine bh (args:=[_]) (fn:=Tryz.f74) Tryz.func74 rfl (n:=9) Tryz.ntmps74 ?_;have S:Step M w0 M w0 aD:=(ar _ _).b9 (fun _ h=>h.elim) (fun _ h=>h.elim);refine ak (aj ?_);refine gp (A:=RT.fd) rfl rfl hM (vI (by omega) (by omega)) rfl (fun u0 w1 cG s0 _=>?_);replace hM:=s0.lt hM;have:=S.size;replace S:=S.aw s0;refine ah rfl rfl (ad (ak (aj ?_)));refine ax (M:=M) (A:=RT.fd) (B:=RT.str) bA rfl rfl I9 (by decide) (DY) rfl rfl (by decide) (by assumption) (by repeat (first|exact ao _ _|refine aV (br (by assumption)) ?_)) (fun tP jc=>?_);refine bw (M:=M) aA rfl rfl rfl rfl rfl jc (ao _ _) (fun v1 pE=>?_);obtain rfl:=dB pE;refine Rg.cat (p:=t.1) (q:=[0]) rfl rfl rfl (by simp;omega) ?_;refine ax (M:=M) (A:=RT.fd) (B:=RT.str) bA rfl rfl I9 (by decide) (LF) rfl rfl (by decide) (by assumption) (by repeat (first|exact ao _ _|refine aV (br (by assumption)) ?_)) (fun EV im=>?_);refine bw (M:=M) aA rfl rfl rfl rfl rfl im (ao _ _) (fun v4 nk=>?_);obtain rfl:=dB nk;refine Rg.cat (p:=t.1++[0]) (q:=t.2) rfl rfl rfl (by simp;omega) (ah rfl rfl (ad (aM ?_)));exact aS rfl rfl ⟨rfl,S⟩
theorem Ak {M:aI} {s:Se} {ls:List (List Po)} {t:Fd} {v0:Value} (w0:World) (hM:Lt M w0) (hs:cf RT.se M w0 v0 s) (rM:yy s.2.2.1) (hls:s.2.2.2=ls.map kP) (hdl:s.2.2.1.length=ls.length) (h1:t.1.length≤140737488355328) (h2:t.2.length≤140737488355328):
  Spec Tryz.prog 25 #[v0,kv t] w0 (fun v w=>v= .int .i64 ((Jf s.2.2.1 ls (dp t)).length:Int)∧Step M w0 M w aD):=by
 refine bh (args:=[_,_]) (fn:=Tryz.f25) Tryz.func25 rfl (n:=21) Tryz.ntmps25 ?_;have S:Step M w0 M w0 aD:=(ar _ _).b9 (fun _ h=>h.elim) (fun _ h=>h.elim);refine ak (aj ?_);refine gp (A:=RT.fd) rfl rfl hM (vI (by omega) (by omega)) rfl (fun u0 w1 cG s0 _=>?_);replace hs:=hs.le (by decide) s0.le;replace hM:=s0.lt hM;have:=S.size;replace S:=S.aw s0;refine ah rfl rfl (ad (ak ?_));apply T.draw (M:=M) mixed [cH.eq v0,cH.eq v0,cH.ptr ((RT.di).ptr) s.2.2,cH.ptr RT.di s.2.2,cH.eq (kv t),cH.eq (sv (dp t)),(cH.mk' (fun v w=>∃p,v= .tuple #[p,.bool (decide (dp t∈s.2.2.1))]∧rO s.2.2 (dp t) M p w) (fun⟨p,h1,h2⟩ s=>⟨p,h1,h2.step s⟩)),(cH.mk' (fun v w=>∃p,v= .tuple #[p,.bool (decide (dp t∈s.2.2.1))]∧rO s.2.2 (dp t) M p w) (fun⟨p,h1,h2⟩ s=>⟨p,h1,h2.step s⟩)),(cH.mk' (fun v w=>rO s.2.2 (dp t) M v w) (fun h s=>h.step s)),cH.eq (.bool (decide (dp t∈s.2.2.1))),(cH.mk' (fun v w=>rO s.2.2 (dp t) M v w) (fun h s=>h.step s)),cH.eq (.bool (decide (dp t∈s.2.2.1)))]
 ·rfl
 ·refine aY ?_ ?_
  ·intro wD E sD;refine ae rfl rfl ?_;exact ad ⟨rfl,rfl,_,rfl,rfl,ar _ _⟩
  refine aY ?_ ?_
  ·intro wD E sD;refine aZ (bZ rfl hs.fL rfl ?_);exact ad ⟨rfl,rfl,_,rfl,rfl,ar _ _⟩
  refine aY ?_ ?_
  ·intro wD E sD;refine aZ ?_;refine ax (M:=M) (A:=RT.se) (B:=(RT.di).ptr) gg rfl rfl BL (by decide) Tx rfl rfl (by decide) hs sD.le (fun uf nf=>?_);exact ad ⟨rfl,rfl,_,rfl,nf,ar _ _⟩
  refine aY ?_ ?_
  ·intro wD E sD;intro v2 qu;refine bw (M:=M) eY rfl rfl rfl rfl rfl (show cf ((RT.di).ptr) M wD v2 s.2.2 from qu) (ao _ _) (fun vd RR=>?_);exact ad ⟨rfl,rfl,_,rfl,rE.1 RR,ar _ _⟩
  refine aY ?_ ?_
  ·intro wD E sD;refine b7 (M:=M) (A:=RT.fd) bA rfl ja (by decide) rfl rfl rfl cG sD.le (fun vt Je=>?_);obtain rfl:=iS Je;exact ad ⟨rfl,rfl,_,rfl,rfl,ar _ _⟩
  refine aY ?_ ?_
  ·intro wD E sD;refine aZ ?_;refine aT rfl rfl Tn (DI (t:=t) _ (sD.lt hM) h1 h2) (fun r5 w5 hc=>?_);obtain⟨rfl,s5⟩:=hc;exact ad ⟨rfl,rfl,_,rfl,rfl,s5⟩
  refine aY ?_ ?_
  ·intro wD E sD;intro v3 qw;refine aZ (aZ ?_);refine aT rfl rfl E73 (find_spec (k:=dp t) _ (sD.lt hM) (show cf RT.di M wD v3 s.2.2 from qw) rM (by rw[hls,cx];exact hdl)) (fun r6 w6 hc=>?_);obtain⟨s6,hr⟩:=hc;refine ad ⟨rfl,rfl,_,rfl,?_,s6⟩;rcases hr with⟨j,p,tl,rfl,h3,h4,h5⟩|⟨rfl,h3⟩
   ·exact⟨p,by rw[decide_eq_true (aH h3)],.inl ⟨j,tl,h3,h4,h5⟩⟩
   ·exact⟨_,by rw[decide_eq_false h3],.inr ⟨rfl,h3⟩⟩
  refine aY ?_ ?_
  ·intro wD E sD;intro v6 pF;refine ae rfl rfl ?_;exact ad ⟨rfl,rfl,_,rfl,pF,ar _ _⟩
  refine aY ?_ ?_
  ·intro wD E sD;intro v7 sy;obtain⟨p,rfl,hp⟩:=sy;refine bR rfl rfl rfl ?_;exact ad ⟨rfl,rfl,_,rfl,hp,ar _ _⟩
  refine aY ?_ ?_
  ·intro wD E sD;intro v7 sy;obtain⟨p,rfl,hp⟩:=sy;refine bR rfl rfl rfl ?_;exact ad ⟨rfl,rfl,_,rfl,rfl,ar _ _⟩
  refine aY ?_ ?_
  ·intro wD E sD;intro v8 vQ;intro v6 pF;refine aZ (aZ ?_);intro v2 qu;intro v3 qw;refine aZ (aZ ?_);intro v6 pF;intro v7 sy;intro v8 vQ;refine ah rfl rfl ?_;exact ad ⟨rfl,rfl,_,rfl,vQ,ar _ _⟩
  refine aY ?_ ?_
  ·intro wD E sD;refine aZ ?_;intro v10 Na;refine aZ (aZ ?_);intro v2 qu;intro v3 qw;refine aZ (aZ ?_);intro v6 pF;intro v7 sy;intro v8 vQ;refine aZ ?_;intro v10 Na;refine ah rfl rfl ?_;exact ad ⟨rfl,rfl,_,rfl,rfl,ar _ _⟩
  exact cy.nil
 ·intro A1 lr;refine aZ (aZ ?_);intro BI lU;intro QB FT;refine aZ (aZ ?_);intro agd acp;intro Ra Kb;intro YO RS;refine aZ ?_;intro RU BO;refine aZ ?_;replace BO:rO s.2.2 (dp t) M RU A1:=BO;have hF:=BO;replace hM:=lr.lt hM;replace S:=S.aw lr;replace hs:=hs.le (by decide) lr.le;replace cG:=cG.le (by decide) lr.le;refine ak (ak (aj (ae rfl rfl (jx rfl rfl (bI (v':= .bool (decide (dp t∉s.2.2.1))) (by simp) (ad ?_))))));refine bK rfl (fun c2=>?_) (fun c2=>?_)
  ·refine ak (aj (ah rfl rfl (ad (aM ?_))));have e:Jf s.2.2.1 ls (dp t)=[]:=Aj c2;exact aS rfl rfl ⟨by rw[e];rfl,S⟩
  ·refine aU (ak (aj (ae rfl rfl ?_)));obtain⟨j,tl,PM,xF,Hx⟩:=hF.resolve_right (fun h=>h.2 (b5.1 c2));rw[hls,o2]at xF;obtain⟨l,Ti,rfl⟩:=Option.map_eq_some_iff.1 xF;refine aT rfl rfl E75 (Gw Hx hM (C2 _ _)) (fun r4 w4 hc=>?_);obtain⟨rfl,s4⟩:=hc;replace hs:=hs.le (by decide) s4.le;replace cG:=cG.le (by decide) s4.le;replace hM:=s4.lt hM;have:=S.size;replace S:=S.aw s4;refine ah rfl rfl (ad (aM ?_));have e:Jf s.2.2.1 ls (dp t)=l:=G2 rM.nodup PM Ti;exact aS rfl rfl ⟨by rw[e,Nu],S⟩
end Go.K
namespace Go.K
open Go.Proofs
namespace TKAdv
theorem jQ:TI Tryz.prog 107 (.slice none 0 0) 1 24:=by unfold TI;kernel_rfl
theorem RD:Enters Tryz.prog 180:=enters Tryz.func180 rfl (by decide)
end TKAdv
open TKAdv
set_option maxRecDepth 10000
end Go.K
namespace Go.K
open Go.Proofs
namespace TKErsA
theorem BL:TI Tryz.prog 123 (.pointer none) 1 8:=by unfold TI;kernel_rfl
theorem E73:Enters Tryz.prog 73:=enters Tryz.func73 rfl (by decide)
theorem Nd:Enters Tryz.prog 126:=enters Tryz.func126 rfl (by decide)
end TKErsA
open TKErsA
set_option maxRecDepth 10000
end Go.K
namespace Go.K
open Go.Proofs
namespace TKErsB
theorem E70:Enters Tryz.prog 70:=enters Tryz.func70 rfl (by decide)
end TKErsB
open TKErsB
set_option maxRecDepth 10000
end Go.K
namespace Go.K
open Go.Proofs
namespace TKBldJ
theorem si:TI Tryz.prog 56 (.slice none 0 0) 1 24:=by unfold TI;kernel_rfl
theorem Ae:TI Tryz.prog 58 (.agg #[(.slice none 0 0),(.slice none 0 0),(.slice none 0 0),(.slice none 0 0)]) 4 96:=by unfold TI;kernel_rfl
theorem jQ:TI Tryz.prog 107 (.slice none 0 0) 1 24:=by unfold TI;kernel_rfl
theorem YP:Enters Tryz.prog 27:=enters Tryz.func27 rfl (by decide)
theorem E56:Enters Tryz.prog 56:=enters Tryz.func56 rfl (by decide)
theorem E57:Enters Tryz.prog 57:=enters Tryz.func57 rfl (by decide)
theorem E58:Enters Tryz.prog 58:=enters Tryz.func58 rfl (by decide)
theorem E59:Enters Tryz.prog 59:=enters Tryz.func59 rfl (by decide)
end TKBldJ
open TKBldJ
set_option maxRecDepth 10000
set_option maxHeartbeats 4000000 in
theorem mE {M:aI} {L:List En} {v0:Value} (w0:World) (hM:Lt M w0) (hv:(RT.en.sl).V M w0 L v0) (hl:∀e∈L,∀f∈e.1.2,f.1.length≤900000∧f.2.length≤900000) (hn:L.length≤100000) (hok:Af (-1) L=true):
  Spec Tryz.prog 15 #[v0] w0 (fun v w=>∃s,v= .tuple #[s,.int .i64 0]∧cf RT.se M w s (I8 (iq L))∧Step M w0 M w aD):=by
 have fR:=hM;have hF:=kH hok
 have TB:(keysOf L).length≤500000000:=by
  have h1:=(k8 L).nodup.length_le_of_subset (l₂:=fU L) (fun x hx=>iT.1 hx);have:=j3 hF;omega
 have IC:∀k∈keysOf L,k.length≤43:=fun k hk=>rJ hF k (iT.1 hk)
 refine bh (args:=[_]) (fn:=Tryz.f15) Tryz.func15 rfl (n:=63) Tryz.ntmps15 ?_;have S:Step M w0 M w0 aD:=(ar _ _).b9 (fun _ h=>h.elim) (fun _ h=>h.elim);refine ak (aj (ah rfl rfl (ah rfl rfl (ad (ak (aj ?_))))));refine aT rfl rfl E56 (F9 (Z:=fun k=>w0.heap.size≤k) (B:=w0.heap.size) _ hM (a8 _) (fun k hk=>hk)) (fun r1 w1 hc=>?_);obtain⟨M1,b1,rfl,_,fH,s1⟩:=hc;replace fH:=fH.Dz (Z':=fun k=>w0.heap.size≤k∧k<w1.heap.size) (fun c hc dD=>⟨hc,dD⟩);replace hv:=hv.le s1.le;replace hM:=s1.lt hM;have:=S.size;replace S:=S.aw s1;refine ah rfl rfl (ad (ak (aj ?_)));refine dL M1 Ae rfl (fun fj Ly VM VN y7 tI=>?_);obtain⟨E0,tJ⟩:∃M',M'=ins M1 fj:=⟨_,rfl⟩;rw[←tJ]at tI;have tK:E0 fj:=by rw[tJ];exact .inl rfl
 change Ly.heap[fj]? =some (.cells #[.slice none 0 0,.slice none 0 0,.slice none 0 0,.slice none 0 0] _ _)at y7;replace hv:=hv.le tI.le;replace fH:=fH.a7 tI;replace hM:=tI.lt hM;have:=S.size;replace S:=S.aw tI;refine ad (ak (ak (aj (ae rfl rfl (bz cZ rfl hv rfl (ae rfl rfl (ad (aW ?_))))))));refine cX (σ:=Nat×Value×Value) (fun q=>[(4,.pointer (some ⟨b1,0,none⟩)),(5,.pointer (some ⟨fj,0,none⟩)),(12,v0),(13,.int .i64 (L.length:Int)),(14,.int .i64 (q.1:Int))]) (fun q w=>∃M' words,Lt M' w∧Step M w0 M' w aD∧(RT.en.sl).V M' w L v0∧lS (ZP w0.heap.size fj q.2.1 q.2.2) M' w w0.heap.size b1 (L.take q.1) words (k9 (-1) (L.take q.1))∧w.heap[fj]? =some (.cells #[q.2.1,q.2.2,.slice none 0 0,.slice none 0 0] 58 (0,0))∧M' fj∧Own (RT.int .i64) 3 M' w w0.heap.size q.2.1 ((L.take q.1).map (·.1.1))∧Own (RT.int .i64) 3 M' w w0.heap.size q.2.2 ((L.take q.1).map (·.2))∧gX q.2.1 q.2.2∧0≤words∧words≤500*(q.1:Int)∧q.1≤L.length) (fun q=>L.length-q.1) (0,.slice none 0 0,.slice none 0 0) (.cons rfl (.cons rfl (.cons rfl (.cons rfl (.cons rfl .nil))))) ?_ ?_
 ·exact⟨_,0,hM,S,hv,fH.Dz (Z':=ZP w0.heap.size fj (.slice none 0 0) (.slice none 0 0)) (fun c hc dD=>⟨hc.1,(fun h=>by have:=hc.2;omega),(fun h=>by cases h),(fun h=>by cases h)⟩),y7,tK,dw _ _ _ _ _,dw _ _ _ _ _,gX.nil _,by omega,by omega,bC _⟩
 ·clear hM S hv fH;rintro⟨i,vi,vs⟩ w ⟨M2,words,hM,S,hv,fH,g2,cc,fk,fq,Dq,Xg,hw2,hi⟩;dsimp only at fH g2 fk fq Dq hw2 hi ⊢;refine ak (aj (cj rfl rfl rfl (ad (ak ?_))));refine bK rfl (fun c4=>?_) (fun c4=>?_)
  ·refine aU (ak (aW (ak (aj ?_))));refine cb (M:=M2) cZ vD rfl rfl rfl hv (ao _ _) (by omega) (fun u5 e C9 Da=>?_);rw[aB]at C9;obtain⟨Kn,Nv⟩:=GQ hok C9;have hem:=aH C9;refine b7 (M:=M2) (A:=RT.en) cA rfl vD (by decide) rfl rfl rfl Da (ao _ _) (fun v5 oN=>?_);obtain⟨hr1,yF⟩:=Nn oN;refine sm (A:=RT.en) (M:=M2) vD rfl rfl rfl rfl rfl (by assumption) (ao _ _) hM (fun XB agl rK Al agm=>?_);have:=al g2;replace cc:=(Al.mem _ this).2 cc;replace g2:=Al.aN g2;replace hv:=hv.le Al.le;replace fk:=fk.a7 Al;replace fq:=fq.a7 Al;replace fH:=fH.a7 Al;replace hM:=Al.lt hM;have:=S.size;replace S:=S.aw Al;refine ad (ak (ak (aj (ae rfl rfl ?_))));refine b7 (M:=M2) (A:=RT.en) cA rfl vD (by decide) rfl rfl rfl rK (ao _ _) (fun v6 pF=>?_);refine aT rfl rfl E57 (Gb (Z:=ZP w0.heap.size fj vi vs) _ hM (fun k hk=>⟨by have:=S.size;omega,fun h=>by have:=al g2;omega,fun h=>by have:=(fk.base k h).2;omega,fun h=>by have:=(fq.base k h).2;omega⟩) fH (by have:=S.size;omega) pF (hl e hem) (fun x hx=>hF x (lg hx)) (by simp;omega) (by omega)) (fun r6 w6 hc=>?_);obtain⟨M6,Gr,s6,rfl,_,KY⟩:=hc;replace fH:=KY Kn;have J1:(k7 e).length≤500:=(hF e hem).many;refine bI (v':= .int .i64 0) (by rw[Kn]) ?_;replace fk:=fk.step s6 (fun c hc h=>h.1.2.2.1 hc);replace fq:=fq.step s6 (fun c hc h=>h.1.2.2.2 hc);replace cc:=(s6.mem _ (al g2)).2 cc;replace g2:=s6.bM g2 (fun h=>h.1.2.1 rfl);replace hv:=hv.le s6.le;replace rK:=rK.le (by decide) s6.le;replace S:=S.cR s6 (fun k hk=>hk.1.1);replace hM:=Gr;rw[Nv.symm]at fH;refine ah rfl rfl (ad (ak (aj (ae rfl rfl (dW rfl rfl rfl (ad (T.D6 rfl ((fun h=>h rfl)) (aU ?_))))))));have TO:=g2;have RV:=cc
   have RP:=hv;have RW:=fH;have G3:=fk;have G4:=fq;have hMp:=hM;have Sp:=S;obtain⟨P6,YQ⟩:∃P6:Value→World→Prop,P6=fun v w'=>Own (RT.int .i64) 3 (ov v) w' w0.heap.size v ((L.take i).map (·.1.1)++[e.1.1])∧(∀c,v.ownBlock=some c→w6.heap.size≤c∨vi.ownBlock=some c):=⟨_,rfl⟩
   have h6:∀{v:Value} {w w':World},P6 v w→Step M6 w M6 w' aD→P6 v w':=fun {v w w'} h s=>by rw[YQ]at h ⊢;exact⟨h.1.Ki s (fun _ _ h=>h),h.2⟩
   apply T.RC (M:=M6) [0,1,2,3,4,5,6,7,8,9,10,11,13,12,14,15,16] 13 12 37 (.pointer (some ⟨fj,0,none⟩)) [(6,iH vi)] [cH.eq (.pointer (some ⟨fj,0,none⟩)),cH.eq vi,cH.ptr RT.dc e.1,cH.ptr (RT.int .i64) e.1.1,cH.eq (.int .i64 e.1.1),cH.V ((RT.int .i64).sl) [e.1.1],(cH.mk' (fun v w=>P6 v w) (fun h s=>h6 h s)),cH.eq (.pointer (some ⟨fj,1,none⟩)),cH.eq vs,cH.ptr (RT.int .i64) e.2,cH.eq (.int .i64 e.2),cH.V ((RT.int .i64).sl) [e.2],cH.eq (.pointer (some ⟨fj,0,none⟩))] mixed
   ·simp+decide only[wz,qH,gN,List.map_nil,uR,uT,List.map_toArray,fI,ni,List.idxOf_cons,cond_true,cond_false,Nat.reduceBEq,Nat.reduceAdd,beq_self_eq_true];rfl
   ·rfl
   ·rfl
   ·rfl
   ·rfl
   ·rfl
   ·rfl
   ·rfl
   ·rfl
   ·rfl
   ·rfl
   ·rfl
   ·exact fun ρ w h=>BE (size:=1) (o:=0) (o':=0) bL rfl rfl jE (by decide) (h (.tmp 5) _ rfl) w
   ·intro p hp b hb;simp only[dP,List.not_mem_nil,or_false]at hp;subst hp;exact fk.mut_ b hb
   ·exact fun p hp=>by
     simp only[dP,List.not_mem_nil,or_false]at hp;subst hp;show(6:Nat)≠12;decide
   ·exact uV.st (by exact⟨fun _ _ _ _=>trivial,⟨fun _ _ _ _=>trivial,⟨fun _ _ _ _=>trivial,⟨fun _ _ _ _=>trivial,⟨fun _ _ _ _=>trivial,⟨fun _ _ _ _=>trivial,⟨fun p hp b hb=>(by simp at hp),⟨fun _ _ _ _=>trivial,⟨fun _ _ _ _=>trivial,⟨fun _ _ _ _=>trivial,⟨fun _ _ _ _=>trivial,⟨fun _ _ _ _=>trivial,⟨fun _ _ _ _=>trivial,trivial⟩⟩⟩⟩⟩⟩⟩⟩⟩⟩⟩⟩⟩)
   intro wR9 RX;have G5:=RX M6;have:=al g2;replace cc:=(G5.mem _ this).2 cc;replace g2:=G5.aN g2;replace hv:=hv.le G5.le;replace rK:=rK.le (by decide) G5.le;replace fk:=fk.a7 G5;replace fq:=fq.a7 G5;replace fH:=fH.a7 G5;replace hM:=G5.lt hM;have:=S.size;replace S:=S.aw G5;have YR:=g2;have RY:=fk;have agp:=fq;have hz6:=G5.size;refine⟨?_,?_⟩
   ·refine bu ?_ ?_
    ·intro wD E sD;replace sD:Step M6 _ M6 wD (iH vi):=sD;refine bH (o':=0) bL rfl rfl jE (by decide) rfl rfl ?_;exact ad ⟨rfl,rfl,_,rfl,rfl,ar _ _⟩
    refine bu ?_ ?_
    ·intro wD E sD;replace sD:Step M6 _ M6 wD aD:=sD;refine aZ (aX au rfl rfl rfl (sD.aN YR) rfl ?_);exact ad ⟨rfl,rfl,_,rfl,rfl,ar _ _⟩
    refine bu ?_ ?_
    ·intro wD E sD;replace sD:Step M6 _ M6 wD (iH vi):=sD;refine ax (M:=M6) (A:=RT.en) (B:=RT.dc) cA rfl rfl jW (by decide) Il rfl rfl (by decide) rK sD.le (fun uf nf=>?_);exact ad ⟨rfl,rfl,_,rfl,nf,ar _ _⟩
    refine bu ?_ ?_
    ·intro wD E sD;replace sD:Step M6 _ M6 wD (iH vi):=sD;intro v2 qu;refine ax (M:=M6) (A:=RT.dc) (B:=RT.int .i64) aJ rfl rfl I3 (by decide) Oh rfl rfl (by decide) (show cf RT.dc M6 wD v2 e.1 from qu) (ao _ _) (fun uf nf=>?_);exact ad ⟨rfl,rfl,_,rfl,nf,ar _ _⟩
    refine bu ?_ ?_
    ·intro wD E sD;replace sD:Step M6 _ M6 wD (iH vi):=sD;intro v3 qw;refine b4 (M:=M6) ay rfl rfl (show cf (RT.int .i64) M6 wD v3 e.1.1 from qw) (ao _ _) (fun mO=>?_);exact ad ⟨rfl,rfl,_,rfl,rfl,ar _ _⟩
    refine bu ?_ ?_
    ·intro wD E sD;replace sD:Step M6 _ M6 wD aD:=sD;refine aZ ?_;refine dQ (A:=RT.int .i64) (hn:=by decide) (M:=M6) au I3 (by decide) rfl rfl (sD.lt hM) (fO hr1) (.inr ⟨rfl,rfl⟩) (fun uS wS hS sS=>?_);exact ad ⟨rfl,rfl,_,rfl,hS,sS⟩
    refine bu ?_ ?_
    ·intro wD E sD;replace sD:Step M6 _ M6 wD aD:=sD;refine aZ ?_;intro v5 oN;replace sD:Step M6 wR9 M6 wD aD:=sD;refine Rg.ju (M:=M6) (base:=w0.heap.size) au I3 rfl rfl rfl rfl (RY.a7 sD) (show((RT.int .i64).sl).V M6 wD [e.1.1] v5 from oN) (ao _ _) (by simp;omega) (by simp;omega) (by have:=sD.size;have:=S.size;omega) (fun vA wA hoA sA hFA=>?_);exact ad ⟨rfl,rfl,_,rfl,by show P6 vA wA;rw[YQ];exact⟨hoA.lone,fun c hc=>(hFA c hc).elim (fun h=> .inl (by have:=sD.size;omega)) .inr⟩,sA.back⟩
    refine bu ?_ ?_
    ·intro wD E sD;replace sD:Step M6 _ M6 wD (iH vi):=sD;refine bH (o':=1) bL rfl rfl jE (by decide) rfl rfl ?_;exact ad ⟨rfl,rfl,_,rfl,rfl,ar _ _⟩
    refine bu ?_ ?_
    ·intro wD E sD;replace sD:Step M6 _ M6 wD (iH vi):=sD;refine aZ (aX au rfl rfl rfl (sD.bM YR (fun h=>RY.ep YR (by decide) h)) rfl ?_);exact ad ⟨rfl,rfl,_,rfl,rfl,ar _ _⟩
    refine bu ?_ ?_
    ·intro wD E sD;replace sD:Step M6 _ M6 wD (iH vi):=sD;refine ax (M:=M6) (A:=RT.en) (B:=RT.int .i64) cA rfl rfl I3 (by decide) PX rfl rfl (by decide) rK sD.le (fun uf nf=>?_);exact ad ⟨rfl,rfl,_,rfl,nf,ar _ _⟩
    refine bu ?_ ?_
    ·intro wD E sD;replace sD:Step M6 _ M6 wD (iH vi):=sD;intro v9 Az;refine b4 (M:=M6) ay rfl rfl (show cf (RT.int .i64) M6 wD v9 e.2 from Az) (ao _ _) (fun mO=>?_);exact ad ⟨rfl,rfl,_,rfl,rfl,ar _ _⟩
    refine bu ?_ ?_
    ·intro wD E sD;replace sD:Step M6 _ M6 wD (iH vi):=sD;refine aZ ?_;refine dQ (A:=RT.int .i64) (hn:=by decide) (M:=M6) au I3 (by decide) rfl rfl (sD.lt hM) (fO yF) (.inr ⟨rfl,rfl⟩) (fun uS wS hS sS=>?_);exact ad ⟨rfl,rfl,_,rfl,hS,sS⟩
    refine bu ?_ ?_
    ·intro wD E sD;replace sD:Step M6 _ M6 wD (iH vi):=sD;refine aZ (aZ ?_);intro v2 qu;intro v3 qw;refine aZ ?_;intro v5 oN;intro v6 pF;refine aZ (aZ (bH (o':=0) bL rfl rfl jE (by decide) rfl rfl ?_));exact ad ⟨rfl,rfl,_,rfl,rfl,ar _ _⟩
    exact cg.nil
   ·intro Kd yf;replace yf:Step M6 _ M6 Kd (iH vi):=yf;refine aZ (aZ ?_);intro WU Gd;intro ags acs;refine aZ ?_;intro agt acu;intro yh CA;refine aZ (aZ ?_);intro agu acv;refine aZ ?_;intro RZ BP;refine aZ ?_;replace CA:P6 yh Kd:=CA;rw[YQ]at CA;obtain⟨rC,YS⟩:=CA;replace BP:((RT.int .i64).sl).V M6 Kd [e.2] RZ:=BP;have sX:Step M6 w6 M6 Kd (iH vi):=(G5.b9 (fun _ h=>h.elim) (fun b h=>G3.mut_ b h)).trans yf (fun b _ h=>h);have YT:=G4.step sX (fun c hc h=>Dq c h hc);refine Rg.ju (M:=M6) (base:=w0.heap.size) au I3 rfl rfl rfl rfl YT BP (ao _ _) (by simp;omega) (by simp;omega) (by have:=Sp.size;have:=sX.size;omega) (fun v12 Tp YU yx R0=>?_)
    have Bm:∀c,yh.ownBlock=some c→vs.ownBlock≠some c:=fun c hc hv=>by
     rcases YS c hc with h|h
     ·have:=(G4.base c hv).2;omega
     ·exact Dq c h hv
    have R1:=rC.Ki yx (fun c hc h=>Bm c hc h)
    have R2:gX v12 yh:=fun c hc hc6=>by
     rcases R0 c hc with h|h
     ·have:=(rC.base c hc6).2;omega
     ·exact Bm c hc6 h
    have YV:∀c,v12.ownBlock=some c→w6.heap.size≤c∨vs.ownBlock=some c:=fun c hc=>(R0 c hc).elim (fun h=> .inl (by have:=sX.size;omega)) .inr
    have sZ:Step M6 w6 (jL M6 v12) Tp (fun k=>iH vi k∨iH vs k):=(sX.b9 (fun _ h=> .inl h) (fun b h=>h.elim (G3.mut_ b) (G4.mut_ b))).trans yx (fun b _ h=> .inr h);obtain⟨R3,Nw⟩:∃M',M'=jL (jL M6 v12) yh:=⟨_,rfl⟩;have sW:Step M6 w6 R3 Tp (fun k=>iH vi k∨iH vs k):=by rw[Nw];exact sZ.Yt (fun c hc=>⟨(R1.base c hc).2,(YS c hc).elim .inl (fun h=> .inr (.inr (G3.mut_ c h)))⟩)
    have fk:=R1.H4 (M':=R3) (by rw[Nw];exact fun b hb=> .inl hb);have fq:=YU.H4 (M':=R3) (by rw[Nw];exact fun b hb=> .inr (.inl hb));have cc:=(sW.mem _ (al TO)).2 RV;have g2:=sW.bM TO (fun h=>h.elim (G3.ep TO (by decide)) (G4.ep TO (by decide)));have fH:=((RW.Dz (Z':=fun k=>ZP w0.heap.size fj vi vs k∧ZP w0.heap.size fj yh v12 k) (fun c hc dD=>⟨hc,hc.1,hc.2.1,fun h=>(YS c h).elim (fun h=>by omega) hc.2.2.1,fun h=>(YV c h).elim (fun h=>by omega) hc.2.2.2⟩)).step sW (fun k hk hz=>hk.elim hz.1.2.2.1 hz.1.2.2.2)).Dz (Z':=ZP w0.heap.size fj yh v12) (fun c hc _=>hc.2);have hv:=RP.le sW.le;have S:=Sp.cR sW (fun k hk=>hk.elim (fun h=>(G3.base k h).1) (fun h=>(G4.base k h).1));have hM:=sW.lt hMp;refine ad ⟨rfl,rfl,fun h=>absurd rfl h,?_⟩;refine cu (M:=R3) jE rfl rfl g2 rfl (by obtain⟨_,_,he,_⟩:=fk.isSlice;rw[he];rfl) cc (fun Qh g14 jG=>?_);replace g14:Qh.heap[fj]? =some (.cells #[yh,vs,.slice none 0 0,.slice none 0 0] 58 (0,0)):=g14;replace fk:=fk.step jG (fun c hc (h:c=fj)=>fk.ep g2 (by decide) (h▸hc));replace fq:=fq.step jG (fun c hc (h:c=fj)=>fq.ep g2 (by decide) (h▸hc));replace cc:=(jG.mem _ (al g2)).2 cc;replace fH:=fH.step jG (fun k (hk:k=fj) hz=>hz.2.1 hk);replace hv:=hv.le jG.le;replace S:=S.cR jG (fun k (hk:k=fj)=>by rw[hk];omega);replace hM:=jG.lt hM;clear g2;have g2:=g14;refine ad ⟨rfl,rfl,fun h=>absurd rfl h,?_⟩;refine bH (o':=1) bL rfl rfl jE (by decide) rfl rfl ?_;refine ad ⟨rfl,rfl,fun h=>absurd rfl h,?_⟩;refine cu (M:=R3) jE rfl rfl g2 rfl (by obtain⟨_,_,he,_⟩:=fq.isSlice;rw[he];rfl) cc (fun TH g16 I1=>?_);replace g16:TH.heap[fj]? =some (.cells #[yh,v12,.slice none 0 0,.slice none 0 0] 58 (0,0)):=g16;replace fk:=fk.step I1 (fun c hc (h:c=fj)=>fk.ep g2 (by decide) (h▸hc));replace fq:=fq.step I1 (fun c hc (h:c=fj)=>fq.ep g2 (by decide) (h▸hc));replace cc:=(I1.mem _ (al g2)).2 cc
    replace fH:=fH.step I1 (fun k (hk:k=fj) hz=>hz.2.1 hk);replace hv:=hv.le I1.le;replace S:=S.cR I1 (fun k (hk:k=fj)=>by rw[hk];omega);replace hM:=I1.lt hM;clear g2;have g2:=g16;refine ad ⟨rfl,rfl,fun h=>absurd rfl h,?_⟩;refine jJ (aj (bE rfl rfl rfl (by omega) (ae rfl rfl (ad ?_))));have et:L.take (i+1)=L.take i++[e]:=by rw[bc,C9,bY]
    rw[et]at fH;refine⟨rfl,(i+1,yh,v12),(.cons rfl (.cons rfl (.cons rfl (.cons rfl (.cons rfl .nil))))),?_,?_⟩
    ·exact⟨_,_,hM,S,hv,by rw[et];exact fH,g2,cc,by rw[et,dF];exact fk,by rw[et,dF];exact fq,R2.symm,by omega,by dsimp only;omega,by dsimp only;omega⟩
    ·dsimp only;omega
  ·refine cK (ak (aj ?_));have YW:L.take i=L:=aK (by omega);rw[YW]at fH fk fq;refine ae rfl rfl ?_;refine aT rfl rfl E58 (Bt _ hM fH hF (by omega)) (fun rk w11 hc=>?_);obtain⟨lV,uw⟩:=hc;have:=al g2;replace cc:=(uw.mem _ this).2 cc;replace g2:=uw.aN g2;replace hv:=hv.le uw.le;replace fk:=fk.a7 uw;replace fq:=fq.a7 uw;replace fH:=fH.a7 uw;replace hM:=uw.lt hM;have:=S.size;replace S:=S.aw uw;refine bH (o':=2) bL rfl rfl uY (by decide) rfl rfl ?_;refine cu (M:=M2) uY rfl rfl g2 rfl (iZ lV rfl rfl) cc (fun zk cE eC=>?_);change zk.heap[_]? =some (Obj.cells #[vi,vs,rk,.slice none 0 0] _ _)at cE;have:=al g2;replace cc:=(eC.mem _ this).2 cc;replace hv:=hv.le eC.le;replace lV:=lV.le eC.le;replace fk:=fk.step eC (fun c hc (h:c=fj)=>fk.ep g2 (by decide) (h▸hc));replace fq:=fq.step eC (fun c hc (h:c=fj)=>fq.ep g2 (by decide) (h▸hc));replace fH:=fH.stepT eC (by first|exact fun k hk=>by(obtain⟨cs,hc⟩:=jk.isCells hk;exact⟨cs,_,hc,by decide,by decide,by decide⟩)|exact fun k (hk:k=fj)=>⟨_,_,hk▸g2,by decide,by decide,by decide⟩);replace hM:=eC.lt hM;have:=S.size;replace S:=S.trans eC (fun k hk h=>by have h:_=_:=h;subst h;first|(exfalso;omega)|(show _≤_;omega)|exact⟨by first|omega|assumption,(S.mem _ hk).1 ((eC.mem _ (al g2)).1 cc)⟩|exact .inl rfl|exact .inr rfl|exact .inr (.inl rfl)|exact .inr (.inr rfl)|exact rfl);have tU:=cE;clear g2;have g2:=tU;clear tU;refine ad (ak (ak (aj (bH (o':=2) bL rfl rfl uY (by decide) rfl rfl (aX aC rfl rfl rfl g2 rfl (bI (v':=rk) rfl (bz aC rfl lV rfl (ae rfl rfl (ad (aW ?_))))))))));refine cX (σ:=Nat×Value) (fun q=>[(4,.pointer (some ⟨b1,0,none⟩)),(5,.pointer (some ⟨fj,0,none⟩)),(44,rk),(45,.int .i64 ((keysOf L).length:Int)),(46,.int .i64 (q.1:Int))]) (fun q w=>∃M',Lt M' w∧Step M w0 M' w aD∧lS (ZP w0.heap.size fj vi vs) M' w w0.heap.size b1 L words (k9 (-1) L)∧w.heap[fj]? =some (.cells #[vi,vs,rk,q.2] 58 (0,0))∧M' fj∧Own (RT.int .i64) 3 M' w w0.heap.size vi (L.map (·.1.1))∧Own (RT.int .i64) 3 M' w w0.heap.size vs (L.map (·.2))∧Own ((RT.po).sl) 107 M' w w0.heap.size q.2 (((keysOf L).take q.1).map (pk L))∧(RT.str.sl).V M' w (keysOf L) rk∧q.1≤(keysOf L).length) (fun q=>(keysOf L).length-q.1) (0,.slice none 0 0) (.cons rfl (.cons rfl (.cons rfl (.cons rfl (.cons rfl .nil))))) ?_ ?_
   ·exact⟨_,hM,S,fH,g2,cc,fk,fq,dw _ _ _ _ _,lV,bC _⟩
   ·clear hM S fH g2 cc fk fq lV hv;rintro⟨i3,vl⟩ w ⟨M3,hM,S,fH,g2,cc,fk,fq,jk,lV,Ua⟩;dsimp only at g2 jk Ua ⊢;refine ak (aj (cj rfl rfl rfl (ad (ak ?_))));refine bK rfl (fun Is=>?_) (fun Is=>?_)
    ·refine aU (ak (aW (ak (aj ?_))));refine cb (M:=M3) aC I9 rfl rfl rfl lV (ao _ _) (by omega) (fun u14 k Nx YX=>?_);rw[aB]at Nx;refine bw (M:=M3) aA rfl rfl rfl rfl rfl YX (ao _ _) (fun vk hvk=>?_);obtain rfl:=dB hvk;refine ah rfl rfl (ad ?_);apply vq 4 [0,1] 2 aD mixed rfl rfl rfl rfl;intro MK Gv;have nd:=Gv M3;have:=al g2;replace cc:=(nd.mem _ this).2 cc;replace g2:=nd.aN g2;replace lV:=lV.le nd.le;replace fk:=fk.a7 nd;replace fq:=fq.a7 nd;replace jk:=jk.a7 nd;replace fH:=fH.a7 nd;replace hM:=nd.lt hM;have:=S.size;replace S:=S.aw nd;refine bH (o':=3) bL rfl rfl si (by decide) rfl rfl ?_;refine ad ⟨rfl,rfl,rfl,?_⟩;refine aX bS rfl rfl rfl (by first|assumption|exact cQ nd (by assumption)) rfl ?_;refine ad ⟨rfl,rfl,rfl,?_⟩;refine ae rfl rfl ?_;refine ad ⟨rfl,rfl,rfl,?_⟩;refine ae rfl rfl ?_;refine ad ⟨rfl,rfl,rfl,?_⟩;refine dr ?_;refine⟨eV ⟨fV bL rfl si (by decide),⟨dS rfl g2 (fun h=>h),trivial⟩⟩,?_⟩;have kp:=fY aD MK;refine aT rfl rfl E59 (Bu (k:=k) _ hM fH hF (by omega) (by have:=IC k (aH Nx);omega)) (fun r15 w15 hc=>?_);obtain⟨yc,Dj⟩:=hc;have:=al g2;replace cc:=(Dj.mem _ this).2 cc;replace g2:=Dj.aN g2;replace lV:=lV.le Dj.le;replace fk:=fk.a7 Dj;replace fq:=fq.a7 Dj;replace jk:=jk.a7 Dj;replace fH:=fH.a7 Dj;replace hM:=Dj.lt hM;have:=S.size;replace S:=S.aw Dj;refine(fun(kp:dO _ _ _)=>ad ⟨rfl,rfl,fun _=>kp,?_⟩) (by first|exact kp|exact kp.nZ (by assumption)|exact kp.goN (by assumption)|exact kp.go (by assumption) (fun _ _ h=>by first|exact h|exact h.elim));refine dQ (A:=((RT.po).sl)) (hn:=by decide) (M:=M3) bS jQ (by decide) rfl rfl hM (yc) (.inr ⟨rfl,rfl⟩) (fun acx J8 uF iF=>?_)
     have:=al g2;replace cc:=(iF.mem _ this).2 cc;replace g2:=iF.aN g2;replace lV:=lV.le iF.le;replace yc:=yc.le iF.le;replace fk:=fk.a7 iF;replace fq:=fq.a7 iF;replace jk:=jk.a7 iF;replace fH:=fH.a7 iF;replace hM:=iF.lt hM;have:=S.size;replace S:=S.aw iF;refine(fun(kp:dO _ _ _)=>ad ⟨rfl,rfl,fun _=>kp,?_⟩) (by first|exact kp|exact kp.nZ (by assumption)|exact kp.goN (by assumption)|exact kp.go (by assumption) (fun _ _ h=>by first|exact h|exact h.elim));refine ch (M:=M3) (base:=w0.heap.size) bS jQ rfl rfl rfl rfl jk uF (ao _ _) (by simp;omega) (by simp;omega) (S.size) (fun Ko R4 acy Ny oT=>?_);have:=al g2;replace cc:=(oT.mem _ this).2 cc;replace g2:=oT.bM g2 (fun h=>by first|exact jk.dE g2 h|exact jk.ep g2 (by decide) h|(have:=(jk.base _ h).1;omega));replace lV:=lV.le oT.le;replace yc:=yc.le oT.le;replace uF:=uF.le oT.le;replace fk:=fk.step oT (fun b h1 h2=>fk.ia jk (by decide) h1 h2);replace fq:=fq.step oT (fun b h1 h2=>fq.ia jk (by decide) h1 h2);replace fH:=fH.stepT oT (by first|exact fun k hk=>by(obtain⟨cs,hc⟩:=jk.isCells hk;exact⟨cs,_,hc,by decide,by decide,by decide⟩)|exact fun k (hk:k=fj)=>⟨_,_,hk▸g2,by decide,by decide,by decide⟩);replace hM:=oT.lt hM;have:=S.size;replace S:=S.cF oT jk (a8 _);replace jk:=Ny;refine ad ⟨rfl,rfl,fun h=>absurd rfl h,?_⟩;refine bH (o':=3) bL rfl rfl si (by decide) rfl rfl ?_;refine ad ⟨rfl,rfl,fun h=>absurd rfl h,?_⟩;refine cu (M:=R4) si rfl rfl g2 rfl (by obtain⟨_,_,he,_⟩:=jk.isSlice;rw[he];rfl) cc (fun R5 Kp nS=>?_);change R5.heap[_]? =some (Obj.cells #[vi,vs,rk,Ko] _ _)at Kp;have:=al g2;replace cc:=(nS.mem _ this).2 cc;replace lV:=lV.le nS.le;replace yc:=yc.le nS.le;replace uF:=uF.le nS.le;replace fk:=fk.step nS (fun c hc (h:c=fj)=>fk.ep g2 (by decide) (h▸hc))
     replace fq:=fq.step nS (fun c hc (h:c=fj)=>fq.ep g2 (by decide) (h▸hc));replace jk:=jk.step nS (fun c hc (h:c=fj)=>jk.ep g2 (by decide) (h▸hc));replace fH:=fH.stepT nS (by first|exact fun k hk=>by(obtain⟨cs,hc⟩:=jk.isCells hk;exact⟨cs,_,hc,by decide,by decide,by decide⟩)|exact fun k (hk:k=fj)=>⟨_,_,hk▸g2,by decide,by decide,by decide⟩);replace hM:=nS.lt hM;have:=S.size;replace S:=S.trans nS (fun k hk h=>by have h:_=_:=h;subst h;first|(exfalso;omega)|(show _≤_;omega)|exact⟨by first|omega|assumption,(S.mem _ hk).1 ((nS.mem _ (al g2)).1 cc)⟩|exact .inl rfl|exact .inr rfl|exact .inr (.inl rfl)|exact .inr (.inr rfl)|exact rfl);have tU:=Kp;clear g2;have g2:=tU;clear tU;refine ad ⟨rfl,rfl,fun h=>absurd rfl h,?_⟩;refine jJ (aj (bE rfl rfl rfl (by omega) (ae rfl rfl (ad ?_))));refine⟨rfl,(i3+1,Ko),(.cons rfl (.cons rfl (.cons rfl (.cons rfl (.cons rfl .nil))))),?_,?_⟩
     ·exact⟨_,hM,S,fH,g2,cc,fk,fq,by rw[bc,Nx,bY,dF];exact jk,lV,by dsimp only;omega⟩
     ·dsimp only;omega
    ·refine cK (ak (aj (eX (vs:=[vi,vs,rk,vl]) bL rfl Ae rfl rfl rfl g2 ?_)));rw[aK (by omega)]at jk;have um:RT.pa.V M _ (iq L) _:=Mf (x:=iq L) (fk.close fR S (by show(L.map _).length≤_;rw[cx];omega)) (fq.close fR S (by show(L.map _).length≤_;rw[cx];omega)) (lV.le (Le.close fR S)) (jk.close fR S (by show((keysOf L).map _).length≤_;rw[cx];omega));replace S:=S.back;replace hM:=S.lt fR;refine aT rfl rfl YP (uz (p:=iq L) _ hM um (Cy hF (by omega))) (fun r17 TL hc=>?_);obtain⟨HD,R6,_⟩:=hc;obtain⟨sg,rfl,xL⟩:=R6 (GR hok (by omega));replace S:=S.aw HD;refine bR rfl rfl rfl (bR rfl rfl rfl (ah rfl rfl (ah rfl rfl (ad (aM ?_)))));exact eA rfl rfl rfl ⟨sg,rfl,xL,S⟩
end Go.K
namespace Go.K
open Go.Proofs
namespace TKSegF
theorem R7:placesOf Tryz.prog 127=[(0,1),(1,1)].map some:=by kernel_rfl
theorem Nz:Enters Tryz.prog 15:=enters Tryz.func15 rfl (by decide)
theorem E25:Enters Tryz.prog 25:=enters Tryz.func25 rfl (by decide)
theorem E67:Enters Tryz.prog 67:=enters Tryz.func67 rfl (by decide)
theorem E68:Enters Tryz.prog 68:=enters Tryz.func68 rfl (by decide)
theorem E69:Enters Tryz.prog 69:=enters Tryz.func69 rfl (by decide)
theorem E70:Enters Tryz.prog 70:=enters Tryz.func70 rfl (by decide)
end TKSegF
open TKSegF
set_option maxRecDepth 10000
theorem rb {id:Int}:∀(fs:List Fd) (i:Nat) (out:List Fd),lu (id,out)=0→lu (id,lP id i out fs)=0
 |[],_,_,h=>h
 |x::fs,i,out,h=>by
  unfold lP
  split
  ·split
   ·rename_i h1;exact rb fs _ _ h1
   ·exact rb fs _ _ h
  ·exact h
theorem mF {id:Int}:∀(fs:List Fd) (i:Nat) (out:List Fd),px out→px (lP id i out fs)
 |[],_,_,h=>h
 |x::fs,i,out,h=>by
  unfold lP
  split
  ·rename_i hi
   split
   ·exact mF fs _ _ (h.snoc (tQ x hi))
   ·exact mF fs _ _ h
  ·exact h
theorem DJ (d:Dc):lu (mQ d)=0:=rb d.2 0 [] rfl
theorem Am (d:Dc):px (mQ d).2:=mF d.2 0 [] (fun x h=>by cases h)
theorem An {e:En}:∀{L:List En} {last:Int},Af last (L++[e])=(Af last L&&decide (kE (k9 last L) e=0))
 |[],last=>by show(decide (kE last e=0)&&true)=(true&&decide (kE last e=0));rw[Bool.and_true,fm]
 |x::L,last=>by rw[je];show(decide (kE last x=0)&&Af x.2 (L++[e]))=(decide (kE last x=0)&&Af x.2 L&&decide (kE (k9 x.2 L) e=0));rw[An (L:=L),Bool.and_assoc]
theorem uG {e:En}:∀{L:List En} {last:Int},k9 last (L++[e])=e.2
 |[],_=>rfl
 |x::L,last=>by simp only[je,k9];exact uG
theorem uH (l:List Dc) {a s:Int} (ha:0≤a) (hs:1≤s):∀k,Af (-1) (gZ l a s k)=true∧k9 (-1) (gZ l a s k)<a+s*(k:Int)
 |0=>⟨rfl,by show(-1:Int)<_;simp;omega⟩
 |k+1=>by
  obtain⟨h1,h2⟩:=uH l ha hs k;have e1:a+s*((k+1:Nat):Int)=a+s*(k:Int)+s:=by rw[Int.natCast_add,Int.mul_add];simp;omega
  cases h:l[k]? with
  |none=>rw[tW (List.getElem?_eq_none_iff.1 h),e1];exact⟨h1,by omega⟩
  |some d=>
   rw[tV h,An,uG,h1,e1]
   have:kE (k9 (-1) (gZ l a s k)) (mQ d,a+s*(k:Int))=0:=by
    unfold kE;rw[if_neg (fun h=>h (DJ d)),if_neg (by show¬(a+s*(k:Int)≤_);omega)]
   exact⟨by rw[this];rfl,by show a+s*(k:Int)<_;omega⟩
theorem xk {l:List Dc} {a s:Int}:∀{k:Nat} {e:En},e∈gZ l a s k→∃d,e.1=mQ d
 |0,e,h=>by cases h
 |k+1,e,h=>by
  rw[gZ]at h;rcases cY.1 h with h|h
  ·exact xk h
  ·split at h
   ·rename_i d _;rw[cD.1 h];exact⟨d,rfl⟩
   ·cases h
theorem mG {l:List Dc} {a s:Int} {k:Nat}:∀e∈gZ l a s k,∀f∈e.1.2,f.1.length≤900000∧f.2.length≤900000:=fun e he f hf=>by
 obtain⟨d,hd⟩:=xk he;rw[hd]at hf;have:=Am d f hf;omega
abbrev G6:List En:=[((4,[([116],[97])]),7)]
theorem Ao:words [97]=[[97]]:=by
 have h:eh [97]=[97]:=by rw[mf (by simp)];simp[dec,yU,iJ,iE,n4]
 unfold words;rw[h];simp[eL];rfl
theorem R8:Af (-1) G6=true:=by
 have h:kE (-1) ((4,[([116],[97])]),7)=0:=by
  unfold kE lu;simp only[tN,Ao];decide
 show(decide (kE (-1) ((4,[([116],[97])]),7)=0)&&true)=true;rw[h];rfl
theorem G7:bP [([116],[97])]=[(([116],[97]),0)]:=by
 show fg ([116],[97])++[]=_;unfold fg;rw[Ao];rfl
theorem R9:(pk G6 (dp ([116],[97]))).length=1:=by
 show(Cp 0 (bP [([116],[97])]) (dp ([116],[97]))++[]).length=1;rw[G7];decide
theorem yi {M:aI} (w0:World) (hM:Lt M w0):
  Spec Tryz.prog 23 #[] w0 (fun v w=>v= .bool true∧Step M w0 M w aD):=by
 refine bh (args:=[]) (fn:=Tryz.f23) Tryz.func23 rfl (n:=57) Tryz.ntmps23 ?_;have S:Step M w0 M w0 aD:=(ar _ _).b9 (fun _ h=>h.elim) (fun _ h=>h.elim);refine ak (aj (ah rfl rfl (ad (ak (aj ?_)))));refine aT rfl rfl Nz (mE (L:=[]) _ hM j5 (fun e h=>by cases h) (by decide) rfl) (fun r1 w1 hc=>?_);obtain⟨sa,rfl,DK,s1⟩:=hc;obtain⟨aa,rfl⟩:=DK.fL;replace hM:=s1.lt hM;have:=S.size;replace S:=S.aw s1;refine ae rfl rfl (bR rfl rfl rfl (bR rfl rfl rfl (ah rfl rfl (ah rfl rfl (ad (ak (aj (eM (places:=[(0,1),(1,1)]) bQ gU R7 rfl ⟨_,_,rfl,rfl,_,_,rfl,rfl,rfl⟩ (out:=[_,_]) ⟨0,[_],rfl,rfl,by simp[Value.cells],1,[_],rfl,rfl,by simp[Value.cells],rfl⟩ ?_))))))));refine dQ (A:=RT.fd) (hn:=by decide) (M:=M) aO gU (by decide) rfl rfl hM (vI (t:=([116],[97])) (by decide) (by decide)) (.inl rfl) (fun Sa VD oU A0=>?_);replace DK:=DK.le (by decide) A0.le;replace hM:=A0.lt hM;have:=S.size;replace S:=S.aw A0;refine eM (places:=[(0,1),(1,1)]) aJ jW Pd rfl ⟨_,_,rfl,rfl,_,_,rfl,rfl,rfl⟩ (out:=[_,_]) ⟨0,[_],rfl,rfl,by simp[Value.cells],1,[_],rfl,gw oU,by simp[Value.cells],rfl⟩ ?_;have O2:RT.dc.V M _ (4,[([116],[97])]) (.agg #[.int .i64 4,Sa]):=dR (fO (by decide)) oU rfl rfl rfl rfl;refine eM (places:=[(0,2),(2,1)]) cA vD UG rfl ⟨_,_,rfl,rfl,_,_,rfl,rfl,rfl⟩ (out:=[_,_,_]) ⟨0,[_,_],rfl,rfl,by simp[Value.cells],2,[_],rfl,rfl,by simp[Value.cells],rfl⟩ ?_;have hen:RT.en.V M _ ((4,[([116],[97])]),7) (.agg [.int .i64 4,Sa,.int .i64 7].toArray):=E7 O2 (by decide);refine dQ (A:=RT.en) (hn:=by decide) (M:=M) cZ vD (by decide) rfl rfl hM (hen) (.inl rfl) (fun agz I6 uI jR=>?_);replace DK:=DK.le (by decide) jR.le;replace oU:=oU.le jR.le;replace hM:=jR.lt hM;have:=S.size;replace S:=S.aw jR;refine aT rfl rfl Nz (mE (L:=G6) _ hM uI (fun e he f hf=>by simp only[G6,cD]at he;subst he;simp only[cD]at hf;subst hf;decide) (by decide) R8) (fun r2 w2 hc=>?_)
 obtain⟨sb,rfl,Kq,s2⟩:=hc;obtain⟨ab,rfl⟩:=Kq.fL;replace DK:=DK.le (by decide) s2.le;replace oU:=oU.le s2.le;replace uI:=uI.le s2.le;replace hM:=s2.lt hM;have:=S.size;replace S:=S.aw s2;refine ae rfl rfl (bR rfl rfl rfl (bR rfl rfl rfl (ah rfl rfl (ah rfl rfl (ad (ak (ak (aj (ae rfl rfl (Rg.pS fK rfl rfl rfl (ae rfl rfl ?_)))))))))));refine Rg.xv (g:=20) rfl ((by simp)) (an rfl rfl (ae rfl rfl (an rfl rfl (Rg.pS fK rfl rfl rfl (aE rfl rfl rfl (ad (T.D6 rfl ((by simp)) (aU (ak (aj (ae rfl rfl ?_)))))))))));refine rT rfl rfl rfl (ae rfl rfl (Rg.sN (g:=26) rfl (rfl) (an rfl rfl (ae rfl rfl (an rfl rfl ?_)))));refine aT rfl rfl E67 (DG _ DK) (fun r wc hc=>?_);obtain⟨rfl,rfl⟩:=hc;refine an rfl rfl (rT rfl rfl rfl (aP rfl rfl rfl (ae rfl rfl (Rg.sN (g:=31) rfl (rfl) (an rfl rfl (ae rfl rfl (an rfl rfl ?_)))))));refine aT rfl rfl E68 (BN _ hM rfl (by decide) DK) (fun r9 w9 hc=>?_);obtain⟨hk9,s9⟩:=hc;replace DK:=DK.le (by decide) s9.le;replace oU:=oU.le s9.le;replace uI:=uI.le s9.le;replace Kq:=Kq.le (by decide) s9.le;replace hM:=s9.lt hM;have:=S.size;replace S:=S.aw s9;refine an rfl rfl (bz aC rfl hk9 rfl (an rfl rfl (rT rfl rfl rfl (aP rfl rfl rfl (ae rfl rfl (Rg.sN (g:=37) rfl (rfl) (an rfl rfl (ae rfl rfl (an rfl rfl (rT rfl rfl rfl (aP rfl rfl rfl ?_)))))))))));refine ae rfl rfl (Rg.sN (g:=41) rfl (rfl) (an rfl rfl (ae rfl rfl (an rfl rfl ?_))));refine aT rfl rfl E69 (GW _ Kq) (fun r wc hc=>?_);obtain⟨rfl,rfl⟩:=hc;refine an rfl rfl (rT rfl rfl rfl (aP rfl rfl rfl (ae rfl rfl (Rg.sN (g:=46) rfl (rfl) (an rfl rfl (ae rfl rfl (an rfl rfl ?_)))))));refine aT rfl rfl E70 (DH _ Kq) (fun r wc hc=>?_)
 obtain⟨rfl,rfl⟩:=hc;refine an rfl rfl (rT rfl rfl rfl (aP rfl rfl rfl (ae rfl rfl (Rg.sN (g:=51) rfl (rfl) (an rfl rfl (ae rfl rfl (an rfl rfl (eM (places:=[(0,1),(1,1)]) bA ja UH rfl ⟨_,_,rfl,rfl,_,_,rfl,rfl,rfl⟩ (out:=[_,_]) ⟨0,[_],rfl,rfl,by simp[Value.cells],1,[_],rfl,rfl,by simp[Value.cells],rfl⟩ (an rfl rfl ?_)))))))));refine aT rfl rfl E25 (Ak (ls:=(keysOf G6).map (pk G6)) (t:=([116],[97])) _ hM Kq (k8 G6) rfl (by rw[cx];rfl) (by decide) (by decide)) (fun r30 w30 hc=>?_);obtain⟨rfl,OE⟩:=hc;replace DK:=DK.le (by decide) OE.le;replace oU:=oU.le OE.le;replace uI:=uI.le OE.le;replace Kq:=Kq.le (by decide) OE.le;replace hM:=OE.lt hM;have:=S.size;replace S:=S.aw OE;refine an rfl rfl (rT rfl rfl rfl (aP rfl rfl rfl (ah rfl rfl (ad (aM ?_)))));have e:(Jf (I8 (iq G6)).2.2.1 ((keysOf G6).map (pk G6)) (dp ([116],[97]))).length=1:=(congrArg List.length (Nt (L:=G6) _)).trans R9;exact aS rfl rfl ⟨by rw[e];rfl,S⟩
end Go.K
namespace Go.K
open Go.Proofs
namespace TKErsD
theorem R7:placesOf Tryz.prog 127=[(0,1),(1,1)].map some:=by kernel_rfl
theorem Nz:Enters Tryz.prog 15:=enters Tryz.func15 rfl (by decide)
end TKErsD
open TKErsD
set_option maxRecDepth 10000
end Go.K
namespace Go.K
open Go.Proofs
namespace TKPlc
theorem NA:Enters Tryz.prog 148:=enters Tryz.func148 rfl (by decide)
end TKPlc
open TKPlc
set_option maxRecDepth 10000
def eQ (fs:List Fd) (k:List UInt8):List (List UInt8):=match fs.find? (fun f=>decide (f.1=k))with|some f=>words f.2|none=>[]
theorem nT {fs:List Fd} {k:List UInt8} {i:Nat} {x:Fd} (h:fs[i]? =some x) (hx:x.1=k) (jM:∀(j:Nat) y,j<i→fs[j]? =some y→y.1≠k):eQ fs k=words x.2:=by
 have:fs.find? (fun f=>decide (f.1=k))=some x:=by
  induction fs generalizing i with
  |nil=>simp at h
  |cons y fs ih=>
   cases i with
   |zero=>simp at h;subst h;simp[hx]
   |succ i=>
    rw[List.find?_cons_of_neg (by simpa using jM 0 y (by omega) rfl)];exact ih (by simpa using h) (fun j z hj hz=>jM (j+1) z (by omega) (by simpa using hz))
 unfold eQ;rw[this]
theorem Ap {fs:List Fd} {k:List UInt8} (h:∀f∈fs,f.1.length≤900000∧f.2.length≤900000):(eQ fs k).length≤900001:=by
 unfold eQ
 split
 ·rename_i f hf
  have:=j2 f.2;have:=(h f (List.mem_of_find?_eq_some hf)).2;omega
 ·simp
theorem yj {fs:List Fd} {k:List UInt8} (jM:∀y∈fs,y.1≠k):eQ fs k=[]:=by
 unfold eQ;rw[List.find?_eq_none.2 fun y hy=>by simpa using jM y hy]
def vU (ws:List (List UInt8)) (x:List UInt8):List Int:=(ws.zipIdx.filter fun p=>decide (p.1=x)).map fun p=>(p.2:Int)
theorem xl {ws:List (List UInt8)} {x y:List UInt8} {i:Nat} (h:ws[i]? =some y):vU (ws.take (i+1)) x=if y=x then vU (ws.take i) x++[(i:Int)]else vU (ws.take i) x:=by
 have hi:=(av.1 h).1;unfold vU;rw[bc,h,bY,List.zipIdx_append,List.filter_append,dF];simp only[bF,Nat.min_eq_left (Nat.le_of_lt hi),Nat.zero_add,List.zipIdx_cons,List.zipIdx_nil];by_cases e:y=x
 ·rw[if_pos e];simp[e]
 ·rw[if_neg e];simp[e]
theorem uJ (ws:List (List UInt8)) (x:List UInt8):(vU ws x).length≤ws.length:=by
 unfold vU;rw[cx];exact eJ (List.length_filter_le _ _) (by simp)
theorem rQ {M:aI} {d:Dc} {k:List UInt8} {v0:Value} (w0:World) (hM:Lt M w0) (hd:RT.dc.V M w0 d v0) (hlen:∀f∈d.2,f.1.length≤900000∧f.2.length≤900000) (hdl:d.2.length≤1000000):
  Spec Tryz.prog 148 #[v0,sv k] w0 (fun v w=>(RT.str.sl).V M w (eQ d.2 k) v∧Step M w0 M w aD):=by
 have fR:=hM;refine bh (args:=[_,_]) (fn:=Tryz.f148) Tryz.func148 rfl (n:=28) Tryz.ntmps148 ?_;have S:Step M w0 M w0 aD:=(ar _ _).b9 (fun _ h=>h.elim) (fun _ h=>h.elim);refine ak (aj ?_);refine gp (A:=RT.dc) (a:=d) rfl rfl hM hd rfl (fun u0 w1 cG s0 _=>?_);replace hM:=s0.lt hM;have:=S.size;replace S:=S.aw s0;refine ah rfl rfl (ad (ak (ak (aj (ah rfl rfl (ad (aW ?_)))))));refine cX (σ:=Nat) (fun i=>[(1,sv k),(2,u0),(5,.int .i64 (i:Int))]) (fun i w=>Step M w0 M w aD∧cf RT.dc M w u0 d∧i≤d.2.length∧(∀(j:Nat) y,j<i→d.2[j]? =some y→y.1≠k)) (fun i=>d.2.length-i) 0 (.cons rfl (.cons rfl (.cons rfl .nil))) ?_ ?_
 ·exact⟨S,cG,bC _,fun j y h=>absurd h (sK _)⟩
 ·clear S cG hM;rintro i w ⟨S,cG,hi,jM⟩;have hM:=S.lt fR;refine ak (ak (aj (ae rfl rfl ?_)));refine ax (M:=M) (A:=RT.dc) (B:=(RT.fd).sl) aJ rfl rfl ow (by decide) xV rfl rfl (by decide) cG (ao _ _) (fun u21 NB=>?_);refine bw (M:=M) aO rfl rfl rfl rfl rfl NB (ao _ _) (fun v22 NC=>?_);refine bz aO rfl NC rfl (cj rfl rfl rfl (ad ?_));refine bK rfl (fun c2=>?_) (fun c2=>?_)
  ·refine aU (ak (aW (ak (aj ?_))));obtain⟨fx,il⟩:∃x,d.2[i]? =some x:=⟨_,aF (by omega)⟩;have B1:=hlen _ (aH il);refine ax (M:=M) (A:=RT.dc) (B:=(RT.fd).sl) aJ rfl rfl ow (by decide) xV rfl rfl (by decide) cG (ao _ _) (fun u40 YY=>?_);refine bw (M:=M) aO rfl rfl rfl rfl rfl YY (ao _ _) (fun v41 YZ=>?_);refine ae rfl rfl ?_;refine cb (M:=M) aO gU rfl rfl rfl YZ (ao _ _) (by omega) (fun u43 x fu Y0=>?_);rw[aB]at fu;obtain rfl:=aQ (il.symm.trans fu);refine ax (M:=M) (A:=RT.fd) (B:=RT.str) bQ rfl rfl I9 (by decide) DY rfl rfl (by decide) Y0 (ao _ _) (fun u44 Y1=>?_);refine bw (M:=M) aA rfl rfl rfl rfl rfl Y1 (ao _ _) (fun v45 Y2=>?_);obtain rfl:=dB Y2;refine ae rfl rfl (Rg.rn rfl rfl rfl (ad ?_));refine bK rfl (fun c4=>?_) (fun c4=>?_)
   ·refine ak (aj ?_);refine ax (M:=M) (A:=RT.dc) (B:=(RT.fd).sl) aJ rfl rfl ow (by decide) xV rfl rfl (by decide) cG (ao _ _) (fun u50 Y3=>?_);refine bw (M:=M) aO rfl rfl rfl rfl rfl Y3 (ao _ _) (fun v51 Y4=>?_);refine ae rfl rfl ?_;refine cb (M:=M) aO gU rfl rfl rfl Y4 (ao _ _) (by omega) (fun TP x fu vV=>?_);rw[aB]at fu;obtain rfl:=aQ (il.symm.trans fu);refine ax (M:=M) (A:=RT.fd) (B:=RT.str) bQ rfl rfl I9 (by decide) LF rfl rfl (by decide) vV (ao _ _) (fun u54 G8=>?_);refine bw (M:=M) aA rfl rfl rfl rfl rfl G8 (ao _ _) (fun v55 Y5=>?_);obtain rfl:=dB Y5;refine aT rfl rfl Pj (rB _ hM B1.2) (fun r6 w6 hc=>?_);obtain⟨hr6,s6⟩:=hc;replace cG:=cG.le (by decide) s6.le;replace hM:=s6.lt hM;have:=S.size;replace S:=S.aw s6;refine ah rfl rfl (ad (aM ?_));exact aS rfl rfl ⟨by rw[nT il c4 jM];exact hr6,S⟩
   ·refine aU (aj (ae rfl rfl (bE rfl rfl rfl (by omega) (ah rfl rfl (ad ?_)))));refine⟨rfl,i+1,(.cons rfl (.cons rfl (.cons rfl .nil))),?_,?_⟩
    ·exact⟨S,cG,by omega,fun j y hj hy=>by
      rcases fw j i with h|h
      ·exact jM j y h hy
      ·rw[show j=i by omega,il]at hy;cases hy;exact c4⟩
    ·omega
  ·refine cK (ak (aj (ah rfl rfl (ad (aM ?_)))));exact aS rfl rfl ⟨by rw[yj (fun y hy=>by obtain⟨j,hj⟩:=bT.1 hy;exact jM j y (by have:=(av.1 hj).1;omega) hj)];exact j5,S⟩
theorem Ar {M:aI} {d:Dc} {t:Fd} {v0 v1:Value} (w0:World) (hM:Lt M w0) (hd:RT.dc.V M w0 d v0) (hlen:∀f∈d.2,f.1.length≤900000∧f.2.length≤900000) (hdl:d.2.length≤1000000) (ht:RT.fd.V M w0 t v1):
  Spec Tryz.prog 104 #[v0,v1] w0 (fun v w=>((RT.int .i64).sl).V M w (vU (eQ d.2 t.1) t.2) v∧Step M w0 M w aD):=by
 have fR:=hM;have Hx:=E9 ht;refine bh (args:=[_,_]) (fn:=Tryz.f104) Tryz.func104 rfl (n:=30) Tryz.ntmps104 ?_;have S:Step M w0 M w0 aD:=(ar _ _).b9 (fun _ h=>h.elim) (fun _ h=>h.elim);refine ak (aj ?_);refine gp (A:=RT.dc) (a:=d) rfl rfl hM hd rfl (fun u0 w1 cG s0 _=>?_);replace hd:=hd.le s0.le;replace ht:=ht.le s0.le;replace hM:=s0.lt hM;have:=S.size;replace S:=S.aw s0;refine gp (A:=RT.fd) (a:=t) rfl rfl hM ht rfl (fun u1 w2 lE s1 _=>?_);replace ht:=ht.le s1.le;replace cG:=cG.le (by decide) s1.le;replace hM:=s1.lt hM;have:=S.size;replace S:=S.aw s1;refine ah rfl rfl (ad (ak (aj (ah rfl rfl (ad (ak (aj ?_)))))));refine b7 (M:=M) (A:=RT.dc) aJ rfl jW (by decide) rfl rfl rfl cG (ao _ _) (fun v20 Y6=>?_);refine ax (M:=M) (A:=RT.fd) (B:=RT.str) bA rfl rfl I9 (by decide) DY rfl rfl (by decide) lE (ao _ _) (fun u21 NB=>?_);refine bw (M:=M) aA rfl rfl rfl rfl rfl NB (ao _ _) (fun v22 NC=>?_);obtain rfl:=dB NC;refine aT rfl rfl NA (rQ _ hM Y6 hlen hdl) (fun r2 w2' hc=>?_);obtain⟨yF,s2⟩:=hc;have Tq:=Ap (k:=t.1) hlen;replace cG:=cG.le (by decide) s2.le;replace lE:=lE.le (by decide) s2.le;replace hM:=s2.lt hM;have:=S.size;replace S:=S.aw s2;refine ah rfl rfl (ad (ak (ak (aj (ah rfl rfl (ad (aW ?_)))))));refine cX (σ:=Nat×Value) (fun q=>[(3,u1),(5,q.2),(6,r2),(7,.int .i64 (q.1:Int))]) (fun q w=>∃M',Lt M' w∧Step M w0 M' w aD∧Own (RT.int .i64) 3 M' w w0.heap.size q.2 (vU ((eQ d.2 t.1).take q.1) t.2)∧(RT.str.sl).V M' w (eQ d.2 t.1) r2∧cf RT.fd M' w u1 t∧q.1≤(eQ d.2 t.1).length) (fun q=>(eQ d.2 t.1).length-q.1) (0,.slice none 0 0) (.cons rfl (.cons rfl (.cons rfl (.cons rfl .nil)))) ?_ ?_
 ·exact⟨M,hM,S,dw _ _ _ _ _,yF,lE,bC _⟩
 ·clear S cG lE yF hM;rintro⟨i,u⟩ w ⟨M1,hM,S,ho,yF,lE,hi⟩;dsimp only at ho hi ⊢;refine ak (ak (aj (ae rfl rfl (ae rfl rfl (bz aC rfl yF rfl (cj rfl rfl rfl (ad ?_)))))));refine bK rfl (fun c4=>?_) (fun c4=>?_)
  ·refine aU (ak (aW (ak ?_)));apply jK mixed rfl rfl;intro ML Jg;have lX:=Jg M1;replace yF:=yF.le lX.le;replace lE:=lE.le (by decide) lX.le;replace ho:=ho.a7 lX;replace hM:=lX.lt hM;have:=S.size;replace S:=S.aw lX;refine ae rfl rfl ?_;refine ad ⟨rfl,rfl,rfl,?_⟩;refine ae rfl rfl ?_;refine ad ⟨rfl,rfl,rfl,?_⟩;obtain⟨y,il⟩:∃y,(eQ d.2 t.1)[i]? =some y:=⟨_,aF (by omega)⟩;refine cb (M:=M1) aC I9 rfl rfl rfl yF (ao _ _) (by omega) (fun Sb y' fu uK=>?_);rw[aB]at fu;obtain rfl:=aQ (il.symm.trans fu);refine ad ⟨rfl,rfl,rfl,?_⟩;refine bw (M:=M1) aA rfl rfl rfl rfl rfl uK (ao _ _) (fun v63 mH=>?_);obtain rfl:=dB mH;refine ad ⟨rfl,rfl,rfl,?_⟩;refine ax (M:=M1) (A:=RT.fd) (B:=RT.str) bA rfl rfl I9 (by decide) LF rfl rfl (by decide) lE (ao _ _) (fun u64 ND=>?_);refine ad ⟨rfl,rfl,rfl,?_⟩;refine bw (M:=M1) aA rfl rfl rfl rfl rfl ND (ao _ _) (fun v65 Y7=>?_);obtain rfl:=dB Y7;refine ad ⟨rfl,rfl,rfl,?_⟩;refine Rg.rn rfl rfl rfl ?_;refine ad ⟨rfl,rfl,rfl,?_⟩;refine dr ?_;refine bK rfl (fun c6=>?_) (fun c6=>?_)
   ·refine aj (ae rfl rfl (ae rfl rfl ?_));refine dQ (A:=RT.int .i64) (hn:=by decide) (M:=M1) au I3 (by decide) rfl rfl hM (fO (by omega)) (.inr ⟨rfl,rfl⟩) (fun QF WG oR qX=>?_);replace yF:=yF.le qX.le;replace lE:=lE.le (by decide) qX.le;replace ho:=ho.a7 qX;replace hM:=qX.lt hM;have:=S.size;replace S:=S.aw qX;refine ch (M:=M1) (base:=w0.heap.size) au I3 rfl rfl rfl rfl ho oR (ao _ _) (by have:=uJ ((eQ d.2 t.1).take i) t.2;rw[bF]at this;simp;omega) (by have:=uJ ((eQ d.2 t.1).take i) t.2;rw[bF]at this;simp;omega) (S.size) (fun P5 Y8 Sc Sd qk=>?_);replace yF:=yF.le qk.le;replace lE:=lE.le (by decide) qk.le;replace oR:=oR.le qk.le;replace hM:=qk.lt hM;have:=S.size;replace S:=S.cF qk ho (a8 _);replace ho:=Sd;refine ah rfl rfl (ad (aj (ae rfl rfl (bE rfl rfl rfl (by omega) (ah rfl rfl (ad ?_))))));refine⟨rfl,(i+1,P5),(.cons rfl (.cons rfl (.cons rfl (.cons rfl .nil)))),?_,?_⟩
    ·exact⟨Y8,hM,S,by dsimp only;rw[xl il,if_pos c6];exact ho,yF,lE,by dsimp only;omega⟩
    ·dsimp only;omega
   ·refine aU (aj (ae rfl rfl (bE rfl rfl rfl (by omega) (ah rfl rfl (ad ?_)))));refine⟨rfl,(i+1,u),(.cons rfl (.cons rfl (.cons rfl (.cons rfl .nil)))),?_,?_⟩
    ·exact⟨M1,hM,S,by dsimp only;rw[xl il,if_neg c6];exact ho,yF,lE,by dsimp only;omega⟩
    ·dsimp only;omega
  ·refine cK (ak (aj (ae rfl rfl (ah rfl rfl (ad (aM ?_))))));rw[aK (by omega)]at ho;exact aS rfl rfl ⟨ho.close fR S (by have:=uJ (eQ d.2 t.1) t.2;omega),S.back⟩
end Go.K
namespace Go.K
open Go.Proofs
set_option maxRecDepth 10000
theorem BQ {M:aI} {a b:List (List UInt8)} {v u:Value} (w0:World) (hM:Lt M w0) (hv:((RT.str).sl).V M w0 a v) (hu:((RT.str).sl).V M w0 b u):
  Spec Tryz.prog 84 #[v,u] w0 (fun v' w'=>v'= .bool (decide (a=b))∧Step M w0 M w' aD):=by
 have fR:=hM;have K5:=dd hv;have Ov:=dd hu;refine bh (args:=[_,_]) (fn:=Tryz.f84) Tryz.func84 rfl (n:=26) Tryz.ntmps84 ?_;have S:Step M w0 M w0 aD:=(ar _ _).b9 (fun _ h=>h.elim) (fun _ h=>h.elim);refine ak (aj (ah rfl rfl (ad (ak (ak (aj (ae rfl rfl (bz aC rfl hv rfl (ae rfl rfl (bz aC rfl hu rfl (dW rfl rfl rfl ?_)))))))))));refine ad ?_;refine bK rfl (fun c1=>?_) (fun c1=>?_)
 ·refine ak (aj (ah rfl rfl (ad (aM ?_))));exact aS rfl rfl ⟨congrArg Value.bool (decide_eq_false (fun e=>by subst e;exact c1 rfl)).symm,S⟩
 ·have hlen:a.length=b.length:=by omega
  refine aU (ak (ak (aj (ah rfl rfl (ad (aW ?_))))));refine cX (σ:=Nat) (fun k=>[(0,v),(1,u),(5,.int .i64 (k:Int))]) (fun k w=>Step M w0 M w aD∧((RT.str).sl).V M w a v∧((RT.str).sl).V M w b u∧k≤a.length∧a.take k=b.take k) (fun k=>a.length-k) 0 (.cons rfl (.cons rfl (.cons rfl .nil))) ?_ ?_
  ·exact⟨S,hv,hu,bC _,rfl⟩
  ·clear S hv hu hM;rintro k w ⟨S,hv,hu,hk,heq⟩;have hM:=S.lt fR;refine ak (ak (aj (ae rfl rfl (ae rfl rfl (bz aC rfl hv rfl (cj rfl rfl rfl (ad ?_)))))));refine bK rfl (fun c4=>?_) (fun c4=>?_)
   ·refine aU (ak (aW (ak ?_)));apply jK mixed rfl rfl;intro ML Jg;have lX:=Jg M;replace hv:=hv.le lX.le;replace hu:=hu.le lX.le;replace hM:=lX.lt hM;have:=S.size;replace S:=S.aw lX;refine ae rfl rfl ?_;refine ad ⟨rfl,rfl,rfl,?_⟩;refine ae rfl rfl ?_;refine ad ⟨rfl,rfl,rfl,?_⟩;obtain⟨x,pD⟩:∃x,a[k]? =some x:=⟨_,aF (by omega)⟩;obtain⟨y,mY⟩:∃y,b[k]? =some y:=⟨_,aF (by omega)⟩;refine cb (M:=M) aC I9 rfl rfl rfl hv (ao _ _) (by omega) (fun Sb x_ fu uK=>?_);rw[aB]at fu;obtain rfl:=aQ (pD.symm.trans fu);refine ad ⟨rfl,rfl,rfl,?_⟩;refine bw (M:=M) aA rfl rfl rfl rfl rfl uK (ao _ _) (fun v63 mH=>?_);obtain rfl:=dB mH;refine ad ⟨rfl,rfl,rfl,?_⟩;refine ae rfl rfl ?_;refine ad ⟨rfl,rfl,rfl,?_⟩;refine ae rfl rfl ?_;refine ad ⟨rfl,rfl,rfl,?_⟩;refine cb (M:=M) aC I9 rfl rfl rfl hu (ao _ _) (by omega) (fun u66 x_ fu G9=>?_);rw[aB]at fu;obtain rfl:=aQ (mY.symm.trans fu);refine ad ⟨rfl,rfl,rfl,?_⟩;refine bw (M:=M) aA rfl rfl rfl rfl rfl G9 (ao _ _) (fun v67 NF=>?_);obtain rfl:=dB NF;refine ad ⟨rfl,rfl,rfl,?_⟩;refine Rg.D7 rfl rfl rfl ?_;refine ad ⟨rfl,rfl,rfl,?_⟩;refine dr ?_;refine bK rfl (fun c6=>?_) (fun c6=>?_)
    ·refine ak (aj (ah rfl rfl (ad (aM ?_))));exact aS rfl rfl ⟨congrArg Value.bool (decide_eq_false (fun e=>by subst e;rw[pD]at mY;cases mY;exact c6 rfl)).symm,S⟩
    ·refine aU (aj (ae rfl rfl (bE rfl rfl rfl (by omega) (ah rfl rfl (ad ?_)))));refine⟨rfl,k+1,(.cons rfl (.cons rfl (.cons rfl .nil))),?_,?_⟩
     ·exact⟨S,hv,hu,by omega,by rw[bc,bc,heq,pD,mY,b5.1 c6]⟩
     ·omega
   ·refine cK (ak (aj (ah rfl rfl (ad (aM ?_)))));rw[aK (by omega),aK (by omega)]at heq;exact aS rfl rfl ⟨congrArg Value.bool (decide_eq_true heq).symm,S⟩
theorem uL {M:aI} {a b:List Int} {v u:Value} (w0:World) (hM:Lt M w0) (hv:((RT.int .i64).sl).V M w0 a v) (hu:((RT.int .i64).sl).V M w0 b u):
  Spec Tryz.prog 80 #[v,u] w0 (fun v' w'=>v'= .bool (decide (a=b))∧Step M w0 M w' aD):=by
 have fR:=hM;have K5:=dd hv;have Ov:=dd hu;refine bh (args:=[_,_]) (fn:=Tryz.f80) Tryz.func80 rfl (n:=26) Tryz.ntmps80 ?_;have S:Step M w0 M w0 aD:=(ar _ _).b9 (fun _ h=>h.elim) (fun _ h=>h.elim);refine ak (aj (ah rfl rfl (ad (ak (ak (aj (ae rfl rfl (bz au rfl hv rfl (ae rfl rfl (bz au rfl hu rfl (dW rfl rfl rfl ?_)))))))))));refine ad ?_;refine bK rfl (fun c1=>?_) (fun c1=>?_)
 ·refine ak (aj (ah rfl rfl (ad (aM ?_))));exact aS rfl rfl ⟨congrArg Value.bool (decide_eq_false (fun e=>by subst e;exact c1 rfl)).symm,S⟩
 ·have hlen:a.length=b.length:=by omega
  refine aU (ak (ak (aj (ae rfl rfl (bz au rfl hv rfl (ae rfl rfl (ad (aW ?_))))))));refine cX (σ:=Nat) (fun k=>[(0,v),(1,u),(12,.int .i64 (a.length:Int)),(13,.int .i64 (k:Int))]) (fun k w=>Step M w0 M w aD∧((RT.int .i64).sl).V M w a v∧((RT.int .i64).sl).V M w b u∧k≤a.length∧a.take k=b.take k) (fun k=>a.length-k) 0 (.cons rfl (.cons rfl (.cons rfl (.cons rfl .nil)))) ?_ ?_
  ·exact⟨S,hv,hu,bC _,rfl⟩
  ·clear S hv hu hM;rintro k w ⟨S,hv,hu,hk,heq⟩;have hM:=S.lt fR;refine ak (aj (cj rfl rfl rfl (ad (ak ?_))));refine bK rfl (fun c4=>?_) (fun c4=>?_)
   ·refine aU (ak (aW (ak (aj (ae rfl rfl (ah rfl rfl (ad (ak ?_))))))));apply jK mixed rfl rfl;intro ML Jg;have lX:=Jg M;replace hv:=hv.le lX.le;replace hu:=hu.le lX.le;replace hM:=lX.lt hM;have:=S.size;replace S:=S.aw lX;refine ae rfl rfl ?_;refine ad ⟨rfl,rfl,rfl,?_⟩;refine ae rfl rfl ?_;refine ad ⟨rfl,rfl,rfl,?_⟩;obtain⟨x,pD⟩:∃x,a[k]? =some x:=⟨_,aF (by omega)⟩;obtain⟨y,mY⟩:∃y,b[k]? =some y:=⟨_,aF (by omega)⟩;refine cb (M:=M) au I3 rfl rfl rfl hv (ao _ _) (by omega) (fun Sb x_ fu uK=>?_);rw[aB]at fu;obtain rfl:=aQ (pD.symm.trans fu);refine ad ⟨rfl,rfl,rfl,?_⟩;refine b4 (M:=M) ay rfl rfl uK (ao _ _) (fun TQ=>?_);refine bI (v':= .int .i64 x) rfl ?_;refine ad ⟨rfl,rfl,rfl,?_⟩;refine ae rfl rfl ?_;refine ad ⟨rfl,rfl,rfl,?_⟩;refine ae rfl rfl ?_;refine ad ⟨rfl,rfl,rfl,?_⟩;refine cb (M:=M) au I3 rfl rfl rfl hu (ao _ _) (by omega) (fun u66 x_ fu G9=>?_);rw[aB]at fu;obtain rfl:=aQ (mY.symm.trans fu);refine ad ⟨rfl,rfl,rfl,?_⟩;refine b4 (M:=M) ay rfl rfl G9 (ao _ _) (fun TR=>?_);refine bI (v':= .int .i64 y) rfl ?_;refine ad ⟨rfl,rfl,rfl,?_⟩;refine dW rfl rfl rfl ?_;refine ad ⟨rfl,rfl,rfl,?_⟩;refine dr ?_;refine bK rfl (fun c6=>?_) (fun c6=>?_)
    ·refine ak (aj (ah rfl rfl (ad (aM ?_))));exact aS rfl rfl ⟨congrArg Value.bool (decide_eq_false (fun e=>by subst e;rw[pD]at mY;cases mY;exact c6 rfl)).symm,S⟩
    ·refine aU (aj (bE rfl rfl rfl (by omega) (ae rfl rfl (ad ?_))));refine⟨rfl,k+1,(.cons rfl (.cons rfl (.cons rfl (.cons rfl .nil)))),?_,?_⟩
     ·exact⟨S,hv,hu,by omega,by rw[bc,bc,heq,pD,mY,b5.1 c6]⟩
     ·omega
   ·refine cK (ak (aj (ah rfl rfl (ad (aM ?_)))));rw[aK (by omega),aK (by omega)]at heq;exact aS rfl rfl ⟨congrArg Value.bool (decide_eq_true heq).symm,S⟩
theorem Ha {M:aI} {a b:List (List UInt8)} {v u:Value} (w0:World) (hM:Lt M w0) (hv:((RT.str).sl).V M w0 a v) (hu:((RT.str).sl).V M w0 b u):
  Spec Tryz.prog 81 #[v,u] w0 (fun v' w'=>v'= .bool (decide (a=b))∧Step M w0 M w' aD):=by
 have fR:=hM;have K5:=dd hv;have Ov:=dd hu;refine bh (args:=[_,_]) (fn:=Tryz.f81) Tryz.func81 rfl (n:=26) Tryz.ntmps81 ?_;have S:Step M w0 M w0 aD:=(ar _ _).b9 (fun _ h=>h.elim) (fun _ h=>h.elim);refine ak (aj (ah rfl rfl (ad (ak (ak (aj (ae rfl rfl (bz aC rfl hv rfl (ae rfl rfl (bz aC rfl hu rfl (dW rfl rfl rfl ?_)))))))))));refine ad ?_;refine bK rfl (fun c1=>?_) (fun c1=>?_)
 ·refine ak (aj (ah rfl rfl (ad (aM ?_))));exact aS rfl rfl ⟨congrArg Value.bool (decide_eq_false (fun e=>by subst e;exact c1 rfl)).symm,S⟩
 ·have hlen:a.length=b.length:=by omega
  refine aU (ak (ak (aj (ae rfl rfl (bz aC rfl hv rfl (ae rfl rfl (ad (aW ?_))))))));refine cX (σ:=Nat) (fun k=>[(0,v),(1,u),(12,.int .i64 (a.length:Int)),(13,.int .i64 (k:Int))]) (fun k w=>Step M w0 M w aD∧((RT.str).sl).V M w a v∧((RT.str).sl).V M w b u∧k≤a.length∧a.take k=b.take k) (fun k=>a.length-k) 0 (.cons rfl (.cons rfl (.cons rfl (.cons rfl .nil)))) ?_ ?_
  ·exact⟨S,hv,hu,bC _,rfl⟩
  ·clear S hv hu hM;rintro k w ⟨S,hv,hu,hk,heq⟩;have hM:=S.lt fR;refine ak (aj (cj rfl rfl rfl (ad (ak ?_))));refine bK rfl (fun c4=>?_) (fun c4=>?_)
   ·refine aU (ak (aW (ak (aj (ae rfl rfl (ah rfl rfl (ad (ak ?_))))))));apply jK mixed rfl rfl;intro ML Jg;have lX:=Jg M;replace hv:=hv.le lX.le;replace hu:=hu.le lX.le;replace hM:=lX.lt hM;have:=S.size;replace S:=S.aw lX;refine ae rfl rfl ?_;refine ad ⟨rfl,rfl,rfl,?_⟩;refine ae rfl rfl ?_;refine ad ⟨rfl,rfl,rfl,?_⟩;obtain⟨x,pD⟩:∃x,a[k]? =some x:=⟨_,aF (by omega)⟩;obtain⟨y,mY⟩:∃y,b[k]? =some y:=⟨_,aF (by omega)⟩;refine cb (M:=M) aC I9 rfl rfl rfl hv (ao _ _) (by omega) (fun Sb x_ fu uK=>?_);rw[aB]at fu;obtain rfl:=aQ (pD.symm.trans fu);refine ad ⟨rfl,rfl,rfl,?_⟩;refine bw (M:=M) aA rfl rfl rfl rfl rfl uK (ao _ _) (fun v63 mH=>?_);obtain rfl:=dB mH;refine ad ⟨rfl,rfl,rfl,?_⟩;refine ae rfl rfl ?_;refine ad ⟨rfl,rfl,rfl,?_⟩;refine ae rfl rfl ?_;refine ad ⟨rfl,rfl,rfl,?_⟩;refine cb (M:=M) aC I9 rfl rfl rfl hu (ao _ _) (by omega) (fun u66 x_ fu G9=>?_);rw[aB]at fu;obtain rfl:=aQ (mY.symm.trans fu);refine ad ⟨rfl,rfl,rfl,?_⟩;refine bw (M:=M) aA rfl rfl rfl rfl rfl G9 (ao _ _) (fun v67 NF=>?_);obtain rfl:=dB NF;refine ad ⟨rfl,rfl,rfl,?_⟩;refine Rg.D7 rfl rfl rfl ?_;refine ad ⟨rfl,rfl,rfl,?_⟩;refine dr ?_;refine bK rfl (fun c6=>?_) (fun c6=>?_)
    ·refine ak (aj (ah rfl rfl (ad (aM ?_))));exact aS rfl rfl ⟨congrArg Value.bool (decide_eq_false (fun e=>by subst e;rw[pD]at mY;cases mY;exact c6 rfl)).symm,S⟩
    ·refine aU (aj (bE rfl rfl rfl (by omega) (ae rfl rfl (ad ?_))));refine⟨rfl,k+1,(.cons rfl (.cons rfl (.cons rfl (.cons rfl .nil)))),?_,?_⟩
     ·exact⟨S,hv,hu,by omega,by rw[bc,bc,heq,pD,mY,b5.1 c6]⟩
     ·omega
   ·refine cK (ak (aj (ah rfl rfl (ad (aM ?_)))));rw[aK (by omega),aK (by omega)]at heq;exact aS rfl rfl ⟨congrArg Value.bool (decide_eq_true heq).symm,S⟩
end Go.K

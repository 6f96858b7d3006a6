/- What the law 'EraseLives' needs of walks and plain Lean, part 5: nothing is assumed beyond the texts that it imports. -/
import Derived.KernelRfl
import Derived.Laws.StructEq
import Derived.Test.YtohfoenhmkfjkaaGreatDoorProg
import Derived.Test.YtohfoenhmkfjkaaGreatDoorZEraseLives1
import Derived.Test.YtohfoenhmkfjkaaGreatDoorZEraseLives2
import Derived.Test.YtohfoenhmkfjkaaGreatDoorZEraseLives3
import Derived.Test.YtohfoenhmkfjkaaGreatDoorZEraseLives4
set_option linter.unusedVariables false
set_option linter.unusedSimpArgs false
namespace Go.K
open Go.Proofs
namespace TKErsB
theorem Uo:Enters Tryz.prog 70:=enters Tryz.func70 rfl (by decide)
theorem E95:Enters Tryz.prog 95:=enters Tryz.func95 rfl (by decide)
theorem E96:Enters Tryz.prog 96:=enters Tryz.func96 rfl (by decide)
end TKErsB
open TKErsB
set_option maxRecDepth 10000
def ju (l:List Po) (sq:List Int) (t:Int):List Int:=(l.map (·.1)).takeWhile fun d=>decide (rF sq d<t)
theorem Ls {α:Type} {p:α→Bool}:∀{xs:List α} {k:Nat} {d:α},(∀(j:Nat) x,j<k→xs[j]? =some x→p x=true)→xs[k]? =some d→p d=true→(xs.takeWhile p)[k]? =some d
 |[],_,_,_,h,_=>by simp at h
 |x::xs,0,d,_,h,hp=>by simp at h;subst h;simp[iO,hp]
 |x::xs,k+1,d,h1,h,hp=>by
  rw[iO,if_pos (h1 0 x (by omega) rfl),List.getElem?_cons_succ];exact Ls (fun j y hj hy=>h1 (j+1) y (by omega) (by simpa using hy)) (by simpa using h) hp
theorem Cb {α:Type} {p:α→Bool}:∀{xs:List α} {k:Nat},(∀(j:Nat) x,j<k→xs[j]? =some x→p x=true)→k≤xs.length→(∀d,xs[k]? =some d→p d=false)→(xs.takeWhile p).length=k
 |[],k,_,h,_=>by simp at h;simp[h]
 |x::xs,0,_,_,h=>by rw[iO,if_neg (by rw[h x rfl];decide)];rfl
 |x::xs,k+1,h1,h2,h=>by
  rw[iO,if_pos (h1 0 x (by omega) rfl),cA,Cb (k:=k) (fun j y hj hy=>h1 (j+1) y (by omega) (by simpa using hy)) (by simpa using h2) (fun d hd=>h d (by simpa using hd))]
structure J5 (l:List Po):Prop where
 may:dR (-1) l=true
 ps:∀p∈l,p.2.length≤1099511627776
 by_:(dy (-1) l).length≤1099511627776
 ln:l.length≤1099511627776
theorem HB {L:List En} (hF:∀e∈L,gR e.1) (hn:L.length≤1000000) (k:List UInt8):J5 (pk L k):=by
 have h1:=qw k L 0 hF;have pQ:dR (-1) (pk L k)=true:=rR k L 0 (-1) hF (by omega) (by omega);have rr:∀p∈pk L k,p.2.length≤500:=fun p hp=>(h1.2 p hp).2.2
 obtain⟨h2,h3⟩:=qx (pk L k) (-1) 500 (by omega) pQ rr (by omega);have hl:(pk L k).length≤L.length:=h1.1;exact⟨pQ,fun p hp=>by have:=rr p hp;omega,by omega,by omega⟩
theorem ud {M:aB} {s:Se} {e:Er} {v0 ve:Value} (w0:World) (hM:Lt M w0) (hs:cp RT.se M w0 v0 s) (he:RT.er.V M w0 e ve):
  Spec Tryz.prog 72 #[v0,ve] w0 (fun v w=>∃bs u,v= .func (.func 122) #[] [.pointer (some ⟨bs,0,none⟩),u].toArray∧w.heap[bs]? =some (.cells #[v0] 25 (0,0))∧cp RT.er M w u e∧w0.heap.size≤bs∧Step M w0 M w aA):=by
 refine aZ (args:=[_,_]) (fn:=Tryz.f72) Tryz.func72 rfl (n:=6) Tryz.ntmps72 (aj (ah ?_));refine o8 M rfl rfl (fun bs w1 p1 q1 g1 s1=>?_);rw[qA hs]at g1;replace s1:=s1.back;refine gx (A:=RT.er) (a:=e) rfl rfl (s1.lt hM) (he.le s1.le) rfl (fun u w2 hu s2 _=>?_);refine ai rfl rfl (ad (aj (ah (iw (xs:=[]) (ys:=[.tmp 2,.tmp 3]) rfl rfl rfl (ai rfl rfl (ad (aL ?_)))))));exact aO rfl rfl ⟨bs,u,rfl,s2.aM g1,hu,p1,s1.ax s2⟩
theorem Az {bs yl:Nat} {u v0:Value} {s:Se} {ls:List (List Po)} {e:Er} {J:Nat→aB→World→Prop} {M:aB} {Jx:World→Prop} (w0:World) (ym:x9 s.2.2.1) (EC:s.2.2.2=ls.map hU) (C9:s.2.2.1.length=ls.length) (yH:J5 (lg s.2.2.1 ls (cL e.1))) (h1:e.1.1.length≤140737488355328) (h2:e.1.2.length≤140737488355328) (EG:∀i M w,J i M w→w.heap[bs]? =some (.cells #[v0] 25 (0,0))∧Lt M w∧cp RT.se M w v0 s∧cp RT.er M w u e) (iK:∀i M w M' w' N,J i M w→Step M w M' w' N→(∀b,N b→w0.heap.size≤b∧(b<w.heap.size→∃cs,w.heap[b]? =some (.cells cs 216 (0,0))))→J i M' w') (hy:∀(i:Nat) (M:aB) (w:World) (d:Int),J i M w→(ju (lg s.2.2.1 ls (cL e.1)) s.2.1 e.2)[i]? =some d→qO Tryz.prog yl [.int .i64 d].toArray w (fun r w'=>∃b,r= .bool b∧(b=true→∃M' N,J (i+1) M' w'∧Step M w M' w' N∧∀k,N k→∀cs,w.heap[k]? ≠some (.cells cs 216 (0,0)))∧(b=false→Jx w'))) (h0:J 0 M w0):
  Spec Tryz.prog 122 #[.func (.yield yl) #[] #[],.pointer (some ⟨bs,0,none⟩),u] w0 (fun _ w=>(∃M',J (ju (lg s.2.2.1 ls (cL e.1)) s.2.1 e.2).length M' w)∨Jx w):=by
 obtain⟨gb,hM,hs,hu⟩:=EG _ _ _ h0;refine aZ (args:=[_,_,_]) (fn:=Tryz.f122) Tryz.func122 rfl (n:=28) Tryz.ntmps122 (aj (ah (aH Tryz.underlying25 rfl rfl rfl gb rfl (bz (v':=v0) rfl ?_))));refine aF (M:=M) (A:=RT.er) (B:=RT.fd) fE rfl rfl o4 (by decide) Un rfl rfl (by decide) hu (ao _ _) (fun uf yj=>?_);refine b5 (M:=M) (A:=RT.fd) bR rfl o4 (by decide) rfl rfl rfl yj (ao _ _) (fun vt B6=>?_);obtain rfl:=kh B6;refine aQ rfl rfl E95 (yq (t:=e.1) _ hM hs ym EC C9 h1 h2) (fun r0 w1 hc=>?_);obtain⟨bc,rfl,hz,s1,hC⟩:=hc;have Zq:=iK _ _ _ _ _ _ h0 s1 (fun b h=>h.elim);generalize ins M bc=M0 at s1 hC Zq;refine ai rfl rfl (ad (aj (ah (ae rfl rfl ?_))));obtain⟨_,rE,_,_⟩:=EG _ _ _ Zq;refine aQ rfl rfl E96 (wT hC rE yH.may yH.ps yH.by_ yH.ln) (fun r2 w2 h=>?_);obtain⟨rfl,s2,SJ⟩:=h;have Up:=iK _ _ _ _ _ _ Zq s2 (fun b (h:b=bc)=>⟨by omega,fun _=>by(obtain⟨_,_,_,_,_,h9,_⟩:=hC;exact⟨_,by rw[h];exact h9⟩)⟩);have Kx:pT (lg s.2.2.1 ls (cL e.1)) (-1)=((0:Nat):Int):=by unfold pT;rw[if_pos (by omega)];rfl
 rw[Kx]at SJ ⊢;refine ai rfl rfl (ad (aY ?_));refine dr (σ:=Nat) (fun k=>[(0,.func (.yield yl) #[] #[]),(1,.pointer (some ⟨bs,0,none⟩)),(2,u),(4,.pointer (some ⟨bc,0,none⟩)),(5,.int .i64 (eG (lg s.2.2.1 ls (cL e.1)) (k:Int)))]) (fun k w=>k≤(lg s.2.2.1 ls (cL e.1)).length∧(∀(j:Nat) x,j<k→((lg s.2.2.1 ls (cL e.1)).map (·.1))[j]? =some x→decide (rF s.2.1 x<e.2)=true)∧∃M1,J k M1 w∧Cu 216 (lg s.2.2.1 ls (cL e.1)) (k:Int) M1 w bc) (fun k=>(lg s.2.2.1 ls (cL e.1)).length-k) 0 (.cons rfl (.cons rfl (.cons rfl (.cons rfl (.cons rfl .nil))))) ?_ ?_
 ·exact⟨bB _,fun j x h=>absurd h (jK _),_,Up,SJ⟩
 ·rintro k w ⟨hk,Fg,M1,hJ,SJ⟩;refine aj (aj ?_);obtain⟨gb2,KH,yA,rv⟩:=EG _ _ _ hJ;by_cases SK:eG (lg s.2.2.1 ls (cL e.1)) (k:Int)<2147483648
  ·obtain⟨d,ps,hx,Kw⟩:∃d ps,(lg s.2.2.1 ls (cL e.1))[k]? =some (d,ps)∧eG (lg s.2.2.1 ls (cL e.1)) (k:Int)=d:=by
    rcases jq (lg s.2.2.1 ls (cL e.1)) (k:Int)with⟨h0,_⟩|⟨j2,d2,ps2,qi,KZ,h3,_⟩|⟨h0,h1,_⟩
    ·omega
    ·have:j2=k:=by omega
     subst this;exact⟨d2,ps2,KZ,h3⟩
    ·omega
   have Dq:=(av.1 hx).1;apply T.draw (M:=M1) mixed [cg.eq _,cg.eq _,cg.eq (.bool true),cg.eq v0,cg.eq _,cg.eq (.int .i64 (rF s.2.1 (eG (lg s.2.2.1 ls (cL e.1)) (k:Int)))),cg.ptr (RT.int .i64) e.2,cg.eq (.int .i64 e.2),cg.eq _,cg.eq _]
   ·rfl
   ·refine aN ?_ ?_
    ·intro wD E sD;refine ae rfl rfl ?_;exact ad ⟨rfl,rfl,_,rfl,rfl,an _ _⟩
    refine aN ?_ ?_
    ·intro wD E sD;refine ay (b4 rfl rfl rfl ?_);exact ad ⟨rfl,rfl,_,rfl,rfl,an _ _⟩
    refine aN ?_ ?_
    ·intro wD E sD;refine ay (ae rfl rfl ?_);refine ad ⟨rfl,rfl,_,rfl,?_,an _ _⟩;exact congrArg Value.bool (decide_eq_true SK)
    refine aN ?_ ?_
    ·intro wD E sD;refine ay (al rfl rfl (aH Tryz.underlying25 rfl rfl rfl (sD.aM gb2) rfl ?_));exact ad ⟨rfl,rfl,_,rfl,rfl,an _ _⟩
    refine aN ?_ ?_
    ·intro wD E sD;refine ay (al rfl rfl (ae rfl rfl ?_));exact ad ⟨rfl,rfl,_,rfl,rfl,an _ _⟩
    refine aN ?_ ?_
    ·intro wD E sD;refine ay (ay (ay (ay (al rfl rfl ?_))));refine aQ rfl rfl Uo (wR _ (yA.le (by decide) sD.le)) (fun r5 w5 hc=>?_);obtain⟨rfl,rfl⟩:=hc;exact ad ⟨rfl,rfl,_,rfl,rfl,an _ _⟩
    refine aN ?_ ?_
    ·intro wD E sD;refine ay (al rfl rfl ?_);refine aF (M:=M1) (A:=RT.er) (B:=RT.int .i64) fE rfl rfl I3 (by decide) Pm rfl rfl (by decide) rv sD.le (fun uf yj=>?_);exact ad ⟨rfl,rfl,_,rfl,yj,an _ _⟩
    refine aN ?_ ?_
    ·intro wD E sD;intro v6 ot;refine ay (al rfl rfl ?_);refine bV (M:=M1) ar rfl rfl (show cp (RT.int .i64) M1 wD v6 e.2 from ot) (ao _ _) (fun lQ=>?_);exact ad ⟨rfl,rfl,_,rfl,rfl,an _ _⟩
    refine aN ?_ ?_
    ·intro wD E sD;refine ay (ay (ay (al rfl rfl (b4 rfl rfl rfl ?_))));exact ad ⟨rfl,rfl,_,rfl,rfl,an _ _⟩
    refine aN ?_ ?_
    ·intro wD E sD;refine ay (ay (aR rfl rfl rfl ?_));exact ad ⟨rfl,rfl,_,rfl,rfl,an _ _⟩
    exact b9.nil
   ·intro wD2 Ea;refine ay (ay (ay (ay (ay (ay ?_)))));intro agN acM;refine ay (ay (ay ?_));have Ii:=iK _ _ _ _ _ _ hJ Ea (fun b h=>h.elim);have Zr:=SJ.step Ea (fun h=>h);refine bH rfl (fun c2=>?_) (fun c2=>?_)
    ·refine aS (aj (aY (aj (ah (ae rfl rfl (ae rfl rfl ?_))))));refine Rg.yield rfl (vs:=[.int .i64 (eG (lg s.2.2.1 ls (cL e.1)) (k:Int))]) rfl rfl (hy k M1 _ _ Ii (by rw[Kw];exact Ls Fg (by rw[cy,hx];rfl) (by rw[←Kw];simpa using c2))) (fun r4 w5 h5=>?_);obtain⟨b,rfl,OT,n4⟩:=h5;refine rq rfl rfl (bz (v':= .bool (decide (¬b=true))) (by simp) (ad ?_));refine bH rfl (fun c4=>?_) (fun c4=>?_)
     ·refine aL ?_;exact Cs rfl (.inr (n4 (by simpa using c4)))
     ·refine aS (ah (ae rfl rfl ?_));obtain⟨M2,N2,Uk,s4,hN4⟩:=OT (dY.1 c4);have hC4:=Zr.step s4 (fun h=>by obtain⟨_,_,_,_,_,h9,_⟩:=Zr;exact hN4 _ h _ h9);obtain⟨_,N4,_,_⟩:=EG _ _ _ Uk;refine aQ rfl rfl E96 (wT hC4 N4 yH.may yH.ps yH.by_ yH.ln) (fun r6 w6 h=>?_);obtain⟨rfl,s6,hC6⟩:=h;have hJ6:=iK _ _ _ _ _ _ Uk s6 (fun b (h:b=bc)=>⟨by omega,fun _=>by(obtain⟨_,_,_,_,_,h9,_⟩:=hC4;exact⟨_,by rw[h];exact h9⟩)⟩);have Kx:pT (lg s.2.2.1 ls (cL e.1)) (k:Int)=((k+1:Nat):Int):=by unfold pT;rw[if_pos (by omega)];rfl
      rw[Kx]at hC6 ⊢;refine ai rfl rfl (ad ?_);refine⟨rfl,k+1,(.cons rfl (.cons rfl (.cons rfl (.cons rfl (.cons rfl .nil))))),?_,?_⟩
      ·exact⟨by omega,fun j x hj SL=>by
        rcases cU j k with h|h
        ·exact Fg j x h SL
        ·rw[show j=k by omega,cy,hx]at SL;cases SL;rw[←Kw];simpa using c2,_,hJ6,hC6⟩
      ·omega
    ·refine cG ?_
     first|refine fL.nil ?_|simp+decide only[sc,kX,if_true,if_false]|skip
     have el:(ju (lg s.2.2.1 ls (cL e.1)) s.2.1 e.2).length=k:=Cb Fg (by rw[ch];exact hk) (fun d' Cy=>by
      rw[cy]at Cy;obtain⟨p,hp,rfl⟩:=Option.map_eq_some_iff.1 Cy;have Zs:eG (lg s.2.2.1 ls (cL e.1)) (k:Int)=p.1:=ig hp
      first
      |(rw[Zs]at c2;simpa using c2)
      |(have:=l5 yH.may hp;omega))
     exact gZ rfl (.inl ⟨_,by rw[el];exact Ii⟩)
  ·apply T.draw (M:=M1) mixed [cg.eq _,cg.eq _,cg.eq (.bool false),cg.eq undef,cg.eq undef,cg.eq undef,cg.eq undef,cg.eq undef,cg.eq undef,cg.eq _]
   ·rfl
   ·refine aN ?_ ?_
    ·intro wD E sD;refine ae rfl rfl ?_;exact ad ⟨rfl,rfl,_,rfl,rfl,an _ _⟩
    refine aN ?_ ?_
    ·intro wD E sD;refine ay (b4 rfl rfl rfl ?_);exact ad ⟨rfl,rfl,_,rfl,rfl,an _ _⟩
    refine aN ?_ ?_
    ·intro wD E sD;refine ay (ae rfl rfl ?_);refine ad ⟨rfl,rfl,_,rfl,?_,an _ _⟩;exact congrArg Value.bool (decide_eq_false SK)
    refine aN ?_ ?_
    ·intro wD E sD;refine ay ?_;exact aq rfl rfl rfl rfl (ad ⟨rfl,rfl,_,rfl,rfl,an _ _⟩)
    refine aN ?_ ?_
    ·intro wD E sD;refine ay ?_;exact aq rfl rfl rfl rfl (ad ⟨rfl,rfl,_,rfl,rfl,an _ _⟩)
    refine aN ?_ ?_
    ·intro wD E sD;refine ay (ay (ay (ay ?_)));exact aq rfl rfl rfl rfl (ad ⟨rfl,rfl,_,rfl,rfl,an _ _⟩)
    refine aN ?_ ?_
    ·intro wD E sD;refine ay ?_;exact aq rfl rfl rfl rfl (ad ⟨rfl,rfl,_,rfl,rfl,an _ _⟩)
    refine aN ?_ ?_
    ·intro wD E sD;refine ay (ay ?_);exact aq rfl rfl rfl rfl (ad ⟨rfl,rfl,_,rfl,rfl,an _ _⟩)
    refine aN ?_ ?_
    ·intro wD E sD;refine ay (ay (ay ?_));exact aq rfl rfl rfl rfl (ad ⟨rfl,rfl,_,rfl,rfl,an _ _⟩)
    refine aN ?_ ?_
    ·intro wD E sD;refine ay (ay (az rfl rfl rfl ?_));exact ad ⟨rfl,rfl,_,rfl,rfl,an _ _⟩
    exact b9.nil
   ·intro wD2 Ea;refine ay (ay (ay (ay (ay (ay (ay (ay (ay (ay ?_)))))))));have Ii:=iK _ _ _ _ _ _ hJ Ea (fun b h=>h.elim);have Zr:=SJ.step Ea (fun h=>h);refine gG rfl (cG ?_)
    first|refine fL.nil ?_|simp+decide only[sc,kX,if_true,if_false]|skip
    have el:(ju (lg s.2.2.1 ls (cL e.1)) s.2.1 e.2).length=k:=Cb Fg (by rw[ch];exact hk) (fun d' Cy=>by
     rw[cy]at Cy;obtain⟨p,hp,rfl⟩:=Option.map_eq_some_iff.1 Cy;have Zs:eG (lg s.2.2.1 ls (cL e.1)) (k:Int)=p.1:=ig hp
     first
     |(rw[Zs]at c2;simpa using c2)
     |(have:=l5 yH.may hp;omega))
    exact gZ rfl (.inl ⟨_,by rw[el];exact Ii⟩)
end Go.K
namespace Go.K
open Go.Proofs
namespace TKErsC
theorem wU:TI Tryz.prog 51 (.agg #[(.string ⟨#[]⟩),(.string ⟨#[]⟩),(.int .i64 0)]) 3 40:=by unfold TI;kernel_rfl
theorem E71:Enters Tryz.prog 71:=enters Tryz.func71 rfl (by decide)
theorem Zt:Enters Tryz.prog 72:=enters Tryz.func72 rfl (by decide)
theorem Zu:Enters Tryz.prog 121:=enters Tryz.func121 rfl (by decide)
theorem Oq:Enters Tryz.prog 122:=enters Tryz.func122 rfl (by decide)
end TKErsC
open TKErsC
set_option maxRecDepth 10000
def Cc (K:aB→World→Prop) (C:TypeId) (gf:FuncId) (lb:Array Value) (xs:List Int):Prop:=
 ∀{yl:Nat} {J:Nat→aB→World→Prop} {M:aB} {Jx:World→Prop} (w0:World) (_:∀i M w,J i M w→Lt M w∧K M w)
  (_:∀i M w M' w' N,J i M w→Step M w M' w' N→(∀b,N b→w0.heap.size≤b∧(b<w.heap.size→∃cs,w.heap[b]? =some (.cells cs C (0,0))))→J i M' w')
  (_:∀(i:Nat) (M:aB) (w:World) (d:Int),J i M w→xs[i]? =some d→qO Tryz.prog yl [.int .i64 d].toArray w (fun r w'=>∃b,r= .bool b∧(b=true→∃M' N,J (i+1) M' w'∧Step M w M' w' N∧∀k,N k→∀cs,w.heap[k]? ≠some (.cells cs C (0,0)))∧(b=false→Jx w'))) (_:J 0 M w0),
  Spec Tryz.prog gf (#[.func (.yield yl) #[] #[]]++lb) w0 (fun _ w=>(∃M',J xs.length M' w)∨Jx w)
structure AA {α:Type} (A:RT α) (e T C:TypeId) (K:aB→World→Prop) (M:aB) (w0:World) (bo D:Nat) (st:Loop) (vo:Value) (xs:List α) (M':aB) (w:World):Prop where
 lt:Lt M' w
 S:Step M w0 M' w aA
 o:w.heap[bo]? =some (.cells #[vo] T (0,0))
 mo:M' bo
 r:w.heap[D+1]? =some (.loop st)
 mr:M' (D+1)
 d:w.heap[D]? =some (.deferred (some []))
 md:M' D
 own:Own A e M' w w0.heap.size vo xs
 k:K M' w
 z:w0.heap.size≤bo∧w0.heap.size≤D
section
variable {α:Type} {A:RT α} {e T C:TypeId} {K:aB→World→Prop} {M M1 M2 N:aB} {w0 w w':World} {bo D:Nat} {st:Loop} {vo:Value} {xs:List α}
theorem AA.HC (hK:∀{M w M' w'},K M w→Le M w M' w'→K M' w') (h1:C≠e) (h2:C≠T) (h:AA A e T C K M w0 bo D st vo xs M1 w) (s:Step M1 w M2 w' N) (hN:∀b,N b→w0.heap.size≤b∧(b<w.heap.size→∃cs,w.heap[b]? =some (.cells cs C (0,0)))):AA A e T C K M w0 bo D st vo xs M2 w':=by
 have n1: ¬N bo:=fun hn=>by obtain⟨cs,hc⟩:=(hN _ hn).2 (ak h.o);rw[h.o]at hc;injection hc with hc;injection hc with _ hc;exact h2 hc.symm
 have n2: ¬N (D+1):=fun hn=>by obtain⟨cs,hc⟩:=(hN _ hn).2 (ak h.r);rw[h.r]at hc;cases hc
 have n3: ¬N D:=fun hn=>by obtain⟨cs,hc⟩:=(hN _ hn).2 (ak h.d);rw[h.d]at hc;cases hc
 refine⟨s.lt h.lt,h.S.cC s (fun k hk=>(hN k hk).1),s.bJ h.o n1,(s.mem _ (ak h.o)).2 h.mo,s.bJ h.r n2,(s.mem _ (ak h.r)).2 h.mr,s.bJ h.d n3,(s.mem _ (ak h.d)).2 h.md,h.own.step s (fun b hb hn=>?_),hK h.k s.le,h.z⟩;obtain⟨cs,hc⟩:=h.own.isCells hb;obtain⟨Ib,yI⟩:=(hN _ hn).2 (ak hc);rw[hc]at yI;injection yI with yI;injection yI with _ yI;exact h1 yI.symm
theorem AA.bh (hK:∀{M w M' w'},K M w→Le M w M' w'→K M' w') (h:AA A e T C K M w0 bo D st vo xs M1 w) (s:Step M1 w M2 w' aA):AA A e T C K M w0 bo D st vo xs M2 w':=
 ⟨s.lt h.lt,h.S.ax s,s.aM h.o,(s.mem _ (ak h.o)).2 h.mo,s.aM h.r,(s.mem _ (ak h.r)).2 h.mr,s.aM h.d,(s.mem _ (ak h.d)).2 h.md,h.own.bh s,hK h.k s.le,h.z⟩
theorem AA.mT (hK:∀{M w M' w'},K M w→Le M w M' w'→K M' w') {st':Loop} (h:AA A e T C K M w0 bo D st vo xs M1 w):AA A e T C K M w0 bo D st' vo xs M1 (w.putObj (D+1) (.loop st')):=by
 have s:Step M1 w M1 (w.putObj (D+1) (.loop st')) (fun k=>k=D+1):=dH h.mr;obtain⟨z1,z2⟩:=h.z;refine⟨s.lt h.lt,h.S.cC s (fun k (hk:k=D+1)=>by omega),s.bJ h.o (fun(hn:bo=D+1)=>by have h1:=h.o;rw[hn,h.r]at h1;cases h1),h.mo,World.putObj_heap_same (ak h.r),h.mr,s.bJ h.d (fun(hn:D=D+1)=>by omega),h.md,h.own.step s (fun b hb (hn:b=D+1)=>?_),hK h.k s.le,h.z⟩;obtain⟨cs,hc⟩:=h.own.isCells hb;rw[hn,h.r]at hc;cases hc
theorem AA.grow (hK:∀{M w M' w'},K M w→Le M w M' w'→K M' w') {Zv:Value} {xs':List α} (hT:T≠e) (h:AA A e T C K M w0 bo D st vo xs M1 w) (s:Step M1 w M2 w' (jj vo)) (ho:Own A e M2 w' w0.heap.size Zv xs'):
  (w'.heap[bo]? =some (.cells #[vo] T (0,0))∧M2 bo)∧∀{w2:World},Step M2 w' M2 w2 (fun k=>k=bo)→w2.heap[bo]? =some (.cells #[Zv] T (0,0))→AA A e T C K M w0 bo D st Zv xs' M2 w2:=by
 obtain⟨z1,z2⟩:=h.z
 have Ot:∀{b:Nat} {o:Obj},w.heap[b]? =some o→(∀cs fr,o≠ .cells cs e fr)→¬jj vo b:=fun {b o} hb eI hn=>by
  obtain⟨⟨C,h1,_⟩,_⟩:=h.own;rcases h1.2 with h3|⟨g,cap,cur,h3,h4,h5,_⟩
  ·unfold jj at hn;rw[h3.1]at hn;cases hn
  ·unfold jj at hn;rw[h3]at hn;cases hn;rw[hb]at h5;exact eI _ _ (bp h5)
 have ga:=s.bJ h.o (Ot h.o (fun cs fr hc=>by injection hc with _ h1 _;exact hT h1));have hr:=s.bJ h.r (Ot h.r (fun cs fr hc=>by cases hc));have hd:=s.bJ h.d (Ot h.d (fun cs fr hc=>by cases hc));have Rj:=(s.mem _ (ak h.o)).2 h.mo;refine⟨⟨ga,Rj⟩,fun {w2} s2 hx=>⟨s2.lt (s.lt h.lt),(h.S.dd s h.own (a7 _)).cC s2 (fun k (hk:k=bo)=>by omega),hx,Rj,s2.bJ hr (fun(hn:D+1=bo)=>by rw[hn,ga]at hr;cases hr),(s.mem _ (ak h.r)).2 h.mr,s2.bJ hd (fun(hn:D=bo)=>by rw[hn,ga]at hd;cases hd),(s.mem _ (ak h.d)).2 h.md,ho.step s2 (fun b hb (hn:b=bo)=>ho.eR ga hT (by rw[←hn];exact hb)),hK (hK h.k s.le) s2.le,h.z⟩⟩
end
theorem AA.told {α:Type} {A:RT α} {e T C:TypeId} {K:aB→World→Prop} {M M1 M5 M6:aB} {w0 w w4 w5 w6 w7 w8:World} {bo D:Nat} {st:Loop} {vo:Value} {xs:List α} (h1:C≠e) (h2:C≠T) (h:AA A e T C K M w0 bo D st vo xs M1 w) (s4:Step M1 w M1 w4 (fun k=>k=D+1)) (s5:Step M1 w4 M5 w5 aA) (s6:Step M5 w5 M6 w6 (jj vo)) (s7:Step M6 w6 M6 w7 (fun k=>k=bo)) (s8:Step M6 w7 M6 w8 (fun k=>k=D+1)):∃N,Step M1 w M6 w8 N∧∀k,N k→∀cs,w.heap[k]? ≠some (.cells cs C (0,0)):=by
 refine⟨fun b=>b=D+1∨jj vo b∨b=bo,((((s4.ca (fun b hb=> .inl hb) (fun b hb=>?_)).ax s5).trans s6 (fun b _ hb=> .inr (.inl hb))).trans s7 (fun b _ hb=> .inr (.inr hb))).trans s8 (fun b _ hb=> .inl hb),fun k hk cs hc=>?_⟩
 ·rcases hb with rfl|hb|rfl
  ·exact h.mr
  ·exact h.own.mut_ _ hb
  ·exact h.mo
 ·rcases hk with rfl|hk|rfl
  ·rw[h.r]at hc;cases hc
  ·obtain⟨Ib,yI⟩:=h.own.isCells hk;rw[hc]at yI;injection yI with yI;injection yI with _ yI;exact h1 yI
  ·rw[h.o]at hc;injection hc with hc;injection hc with _ hc;exact h2 hc.symm
theorem SM {α:Type} {A:RT α} {e T C:TypeId} {K:aB→World→Prop} {M M1:aB} {w0 w:World} {bo:Nat} {st:Loop} (hK:∀{M w M' w'},K M w→Le M w M' w'→K M' w') (hM:Lt M1 w) (S:Step M w0 M1 w aA) (go:w.heap[bo]? =some (.cells #[.slice none 0 0] T (0,0))) (mo:M1 bo) (hk:K M1 w) (NX:w0.heap.size≤bo):
  ∃M',AA A e T C K M w0 bo w.heap.size st (.slice none 0 0) [] M' ((w.alloc (.deferred (some []))).alloc (.loop st)):=by
 have sA:Step M1 w (ins M1 w.heap.size) (w.alloc (.deferred (some []))) aA:=(dg M1 w _).own (a7 _) (by simp);have sB:Step (ins M1 w.heap.size) (w.alloc (.deferred (some []))) (ins (ins M1 w.heap.size) (w.heap.size+1)) ((w.alloc (.deferred (some []))).alloc (.loop st)) aA:=(dg _ _ _).own (by simp) (by simp);have hD:(w.alloc (.deferred (some []))).heap[w.heap.size]? =some (.deferred (some [])):=cz w _;have hR:((w.alloc (.deferred (some []))).alloc (.loop st)).heap[w.heap.size+1]? =some (.loop st):=by have:=cz (w.alloc (.deferred (some []))) (.loop st);rwa [World.size_alloc]at this
 exact⟨_,sB.lt (sA.lt hM),(S.ax sA).ax sB,sB.aM (sA.aM go),.inr (.inr mo),hR,.inl rfl,sB.aM hD,.inr (.inl rfl),dK _ _ _ _ _,hK (hK hk sA.le) sB.le,NX,S.size⟩
theorem Ee {K:aB→World→Prop} {gf:FuncId} {lb:Array Value} {xs:List Int} {M:aB} (w0:World) (hM:Lt M w0) (he:Enters Tryz.prog gf) (hG:Cc K 216 gf lb xs) (hK:∀{M w M' w'},K M w→Le M w M' w'→K M' w') (hk:K M w0) (Ko:∀x∈xs,-9223372036854775808≤x∧x≤9223372036854775807) (vL:xs.length≤1099511627776):
  Spec Tryz.prog 121 #[.slice none 0 0,.func (.func gf) #[] lb] w0 (fun v w=>((RT.int .i64).sl).V M w xs v∧Step M w0 M w aA):=by
 have iL:=hM;refine nk (args:=[_,_]) (fn:=Tryz.f121) Tryz.func121 rfl (n:=13) Tryz.ntmps121 ?_;have S:Step M w0 M w0 aA:=(an _ _).ca (fun _ h=>h.elim) (fun _ h=>h.elim);refine aj (ah ?_);refine o8 M rfl rfl (fun yn J2 Y3 Y4 mq Au=>?_);obtain⟨Av,tZ⟩:∃M',M'=ins M yn:=⟨_,rfl⟩;rw[←tZ]at Au;have nL:Av yn:=by rw[tZ];exact .inl rfl
 change J2.heap[yn]? =some (.cells #[.slice none 0 0] _ _)at mq;replace hM:=Au.lt hM;have:=S.size;replace S:=S.ax Au;refine ai rfl rfl (ad (aj (aj (ah (ae rfl rfl (ad (aY ?_)))))));refine T.range (gf:=gf) (lb:=lb) rfl he (fun rec nj=>?_);obtain⟨D,hD⟩:∃D,D=J2.heap.size:=⟨_,rfl⟩;obtain⟨Mr,h0⟩:=SM (A:=RT.int .i64) (e:=3) (C:=216) (st:=rec .ready none) hK hM S mq nL (hK hk S.le) (by omega);rw[←hD]at nj h0 ⊢;refine Spec.mono (hG (M:=Mr) (J:=fun i M' w=>∃vo,AA (RT.int .i64) 3 32 216 K M w0 yn D (rec .ready none) vo (xs.take i) M' w) (Jx:=fun _=>False) _ (fun i M' w ⟨vo,h⟩=>⟨h.lt,h.k⟩) (fun i M' w M2 w2 N ⟨vo,h⟩ s hN=>⟨vo,h.HC hK (by decide) (by decide) s (fun b hb=>⟨by have h1:=(hN b hb).1;have h2:=h.z.2;simp at h1;omega,(hN b hb).2⟩)⟩) (fun i M' wr x hJ hx=>?_) ⟨_,h0⟩) (fun _ w3 h3=>?_)
 ·obtain⟨vo,h⟩:=hJ;refine lA (ps:=[7]) (vs:=[.int .i64 x]) nj h.r rfl (by decide) (ah (ai rfl rfl (ad ?_)));refine⟨rfl,h.r,?_⟩;have h4:=h.mT hK (st':=rec .busy none);have s4:Step M' wr M' (wr.putObj (D+1) (.loop (rec .busy none))) (fun k=>k=D+1):=dH h.mr;generalize wr.putObj (D+1) _=w4 at h4 s4 ⊢;refine aY (ah (aH au rfl rfl rfl h4.o rfl (bz (v':=vo) rfl (ae rfl rfl ?_))));refine eh (A:=RT.int .i64) (hn:=by decide) (M:=M') au I3 (by decide) rfl rfl h4.lt (Ct.2 ⟨rfl,Ko x (aI hx)⟩) (.inr ⟨rfl,rfl⟩) (fun u5 w5 Bk s5=>?_);have h6:=h4.bh hK s5;have mN:=(av.1 hx).1;refine cR (M:=M') (base:=w0.heap.size) au I3 rfl rfl rfl rfl h6.own Bk (ao _ _) (by simp;omega) (by simp;omega) h6.S.size (fun v6 M6 w6 qW s6=>?_);obtain⟨⟨Zw,Zx⟩,H9⟩:=h6.grow hK (by decide) s6 qW;refine bS (M:=M6) nY rfl rfl Zw rfl (by obtain⟨_,_,he,_⟩:=qW.isSlice;rw[he];rfl) Zx (fun w7 g7 s7=>?_);refine ad ?_;have h8:=(H9 s7 g7).mT hK (st':=rec .ready none);obtain⟨N,hN1,hN2⟩:=h.told (by decide) (by decide) s4 s5 s6 s7 (dH (o:= .loop (rec .ready none)) (H9 s7 g7).mr);exact⟨(H9 s7 g7).r,true,rfl,fun _=>⟨M6,N,⟨v6,by rw[bN,hx,ck];exact h8⟩,hN1,hN2⟩,fun h=>by cases h⟩
 ·obtain⟨M',vo,h⟩:=h3.resolve_right id;left;refine⟨h.r,?_⟩;have h5:=h.mT hK (st':=rec .exhausted none);generalize w3.putObj (D+1) _=wE at h5 ⊢;refine aj (ah (aH au rfl rfl rfl h5.o rfl (bz (v':=vo) rfl (ai rfl rfl (ad (aL ?_))))));have sE:Step M' wE M' (wE.putObj D (.deferred none)) (fun k=>k=D):=dH h5.md;have hz:=h5.z;have hS:=h5.S.cC sE (fun k (hk:k=D)=>by omega)
  have ho:=h5.own.step sE (fun b hb (hn:b=D)=>by
   obtain⟨cs,hc⟩:=h5.own.isCells hb;rw[hn,h5.d]at hc;cases hc)
  rw[aW (a7 _)]at ho;exact A7 rfl rfl h5.d ⟨ho.close iL hS (by omega),hS.back⟩
theorem Cd {K:aB→World→Prop} {gf:FuncId} {lb:Array Value} {xs:List Int} {M:aB} (w0:World) (hM:Lt M w0) (he:Enters Tryz.prog gf) (hG:Cc K 216 gf lb xs) (hK:∀{M w M' w'},K M w→Le M w M' w'→K M' w') (hk:K M w0) (Ko:∀x∈xs,-9223372036854775808≤x∧x≤9223372036854775807) (vL:xs.length≤1099511627776):
  Spec Tryz.prog 71 #[.func (.func gf) #[] lb] w0 (fun v w=>((RT.int .i64).sl).V M w xs v∧Step M w0 M w aA):=by
 refine aZ (args:=[_]) (fn:=Tryz.f71) Tryz.func71 rfl (n:=5) Tryz.ntmps71 (aj (ah (ai rfl rfl (ad (aj (ah (ae rfl rfl ?_)))))));refine aQ rfl rfl Zu (Ee _ hM he hG hK hk Ko vL) (fun r wc hc=>?_);obtain hc:=hc;refine ai rfl rfl (ad (aL ?_));exact aO rfl rfl hc
theorem HD {α:Type} {p:α→Bool}:∀{xs:List α} {x:α},x∈xs.takeWhile p→p x=true
 |[],_,h=>by cases h
 |y::xs,x,h=>by
  rw[iO]at h
  split at h
  ·rename_i hp
   rcases du.1 h with rfl|h
   ·exact hp
   ·exact HD h
  ·cases h
theorem HE {l:List Po} {sq:List Int} {t d:Int} (h:d∈ju l sq t):∃p∈l,p.1=d∧rF sq d<t:=by
 have h1:=HD h;obtain⟨p,hp,rfl⟩:=bZ.1 ((List.takeWhile_sublist _).subset h);exact⟨p,hp,rfl,by simpa using h1⟩
theorem Ef (l:List Po) (sq:List Int) (t:Int):(ju l sq t).length≤l.length:=by
 have:=(List.takeWhile_sublist (l:=l.map (·.1)) (fun d=>decide (rF sq d<t))).length_le
 rwa [ch]at this
theorem rn {s:Se} {ls:List (List Po)} {e:Er} {v0 u:Value} {bs:Nat} (ym:x9 s.2.2.1) (EC:s.2.2.2=ls.map hU) (C9:s.2.2.1.length=ls.length) (yH:J5 (lg s.2.2.1 ls (cL e.1))) (h1:e.1.1.length≤140737488355328) (h2:e.1.2.length≤140737488355328):
  Cc (fun M w=>w.heap[bs]? =some (.cells #[v0] 25 (0,0))∧¬M bs∧cp RT.se M w v0 s∧cp RT.er M w u e) 216 122 #[.pointer (some ⟨bs,0,none⟩),u] (ju (lg s.2.2.1 ls (cL e.1)) s.2.1 e.2):=
 fun w0 hk iK hy h0=>Az w0 ym EC C9 yH h1 h2 (fun i M w h=>⟨(hk i M w h).2.1,(hk i M w h).1,(hk i M w h).2.2.2.1,(hk i M w h).2.2.2.2⟩) iK hy h0
theorem nM {s:Se} {e:Er} {v0 u:Value} {bs:Nat} {M M':aB} {w w':World} (h:w.heap[bs]? =some (.cells #[v0] 25 (0,0))∧¬M bs∧cp RT.se M w v0 s∧cp RT.er M w u e) (l:Le M w M' w'):w'.heap[bs]? =some (.cells #[v0] 25 (0,0))∧¬M' bs∧cp RT.se M' w' v0 s∧cp RT.er M' w' u e:=
 have hb:=l bs (ak h.1) h.2.1
 ⟨hb.2.trans h.1,hb.1,h.2.2.1.le (by decide) l,h.2.2.2.le (by decide) l⟩
theorem ue {M:aB} {s:Se} {ls:List (List Po)} {e:Er} {v0 ve:Value} (w0:World) (hM:Lt M w0) (hs:cp RT.se M w0 v0 s) (he:RT.er.V M w0 e ve) (ym:x9 s.2.2.1) (EC:s.2.2.2=ls.map hU) (C9:s.2.2.1.length=ls.length) (yH:J5 (lg s.2.2.1 ls (cL e.1))):
  Spec Tryz.prog 24 #[v0,ve] w0 (fun v w=>((RT.int .i64).sl).V M w (ju (lg s.2.2.1 ls (cL e.1)) s.2.1 e.2) v∧Step M w0 M w aA):=by
 obtain⟨eve,⟨PQ,Ex⟩,Ey⟩:=B9 he;refine aZ (args:=[_,_]) (fn:=Tryz.f24) Tryz.func24 rfl (n:=9) Tryz.ntmps24 ?_;have S:Step M w0 M w0 aA:=(an _ _).ca (fun _ h=>h.elim) (fun _ h=>h.elim);refine aj (ah ?_);refine gx (A:=RT.er) (a:=e) rfl rfl hM he rfl (fun u0 w1 cv s0 _=>?_);replace hs:=hs.le (by decide) s0.le;replace he:=he.le s0.le;replace hM:=s0.lt hM;have:=S.size;replace S:=S.ax s0;refine ai rfl rfl (ad (aj (ah (ae rfl rfl ?_))));refine b5 (M:=M) (A:=RT.er) fE rfl wU (by decide) rfl rfl rfl cv (ao _ _) (fun vt B6=>?_);refine aQ rfl rfl Zt (ud _ hM hs B6) (fun r2 w2 hc=>?_);obtain⟨bs,u,rfl,Gj,hu,Ui,s2⟩:=hc;have Zy:=nM (M:=M) (M':=M) ⟨Gj,fun h=>by have:=hM _ h;omega,hs.le (by decide) s2.le,hu⟩ (ao _ _);replace hs:=hs.le (by decide) s2.le;replace he:=he.le s2.le;replace cv:=cv.le (by decide) s2.le;replace hM:=s2.lt hM;have:=S.size;replace S:=S.ax s2;refine aQ rfl rfl E71 (Cd _ hM Oq (rn ym EC C9 yH PQ Ex) nM Zy (fun x hx=>by obtain⟨p,hp,rfl,_⟩:=HE hx;obtain⟨i,hi⟩:=bF.1 hp;have:=l5 yH.may hi;omega) (by have:=Ef (lg s.2.2.1 ls (cL e.1)) s.2.1 e.2;have:=yH.ln;omega)) (fun r3 w3 hc=>?_);obtain⟨Ou,s3⟩:=hc;replace hs:=hs.le (by decide) s3.le;replace he:=he.le s3.le;replace cv:=cv.le (by decide) s3.le;replace hM:=s3.lt hM;have:=S.size;replace S:=S.ax s3;refine ai rfl rfl (ad (aL ?_));exact aO rfl rfl ⟨Ou,S⟩
end Go.K
namespace Go.K
open Go.Proofs
namespace TKBldJ
theorem Ph:TI Tryz.prog 56 (.slice none 0 0) 1 24:=by unfold TI;kernel_rfl
theorem Ul:TI Tryz.prog 58 (.agg #[(.slice none 0 0),(.slice none 0 0),(.slice none 0 0),(.slice none 0 0)]) 4 96:=by unfold TI;kernel_rfl
theorem jQ:TI Tryz.prog 107 (.slice none 0 0) 1 24:=by unfold TI;kernel_rfl
theorem E27:Enters Tryz.prog 27:=enters Tryz.func27 rfl (by decide)
theorem E56:Enters Tryz.prog 56:=enters Tryz.func56 rfl (by decide)
theorem E57:Enters Tryz.prog 57:=enters Tryz.func57 rfl (by decide)
theorem E58:Enters Tryz.prog 58:=enters Tryz.func58 rfl (by decide)
theorem E59:Enters Tryz.prog 59:=enters Tryz.func59 rfl (by decide)
end TKBldJ
open TKBldJ
set_option maxRecDepth 10000
set_option maxHeartbeats 4000000 in
theorem ug {M:aB} {L:List En} {v0:Value} (w0:World) (hM:Lt M w0) (hv:(RT.en.sl).V M w0 L v0) (hl:∀e∈L,∀f∈e.1.2,f.1.length≤900000∧f.2.length≤900000) (hn:L.length≤100000) (eO:tW (-1) L=true):
  Spec Tryz.prog 15 #[v0] w0 (fun v w=>∃s,v= .tuple #[s,.int .i64 0]∧cp RT.se M w s (rS (fM L))∧Step M w0 M w aA):=by
 have iL:=hM;have hF:=lO eO
 have XI:(keysOf L).length≤500000000:=by
  have h1:=(kS L).nodup.length_le_of_subset (l₂:=gK L) (fun x hx=>ku.1 hx);have:=qz hF;omega
 have Ju:∀k∈keysOf L,k.length≤43:=fun k hk=>re hF k (ku.1 hk)
 refine aZ (args:=[_]) (fn:=Tryz.f15) Tryz.func15 rfl (n:=63) Tryz.ntmps15 ?_;have S:Step M w0 M w0 aA:=(an _ _).ca (fun _ h=>h.elim) (fun _ h=>h.elim);refine aj (ah (ai rfl rfl (ai rfl rfl (ad (aj (ah ?_))))));refine aQ rfl rfl E56 (GP (Z:=fun k=>w0.heap.size≤k) (B:=w0.heap.size) _ hM (a7 _) (fun k hk=>hk)) (fun r1 w1 hc=>?_);obtain⟨M1,b1,rfl,_,fB,s1⟩:=hc;replace fB:=fB.D1 (Z':=fun k=>w0.heap.size≤k∧k<w1.heap.size) (fun c hc dC=>⟨hc,dC⟩);replace hv:=hv.le s1.le;replace hM:=s1.lt hM;have:=S.size;replace S:=S.ax s1;refine ai rfl rfl (ad (aj (ah ?_)));refine fh M1 Ul rfl (fun fi I6 Wh Wi zk tj=>?_);obtain⟨FH,tn⟩:∃M',M'=ins M1 fi:=⟨_,rfl⟩;rw[←tn]at tj;have tp:FH fi:=by rw[tn];exact .inl rfl
 change I6.heap[fi]? =some (.cells #[.slice none 0 0,.slice none 0 0,.slice none 0 0,.slice none 0 0] _ _)at zk;replace hv:=hv.le tj.le;replace fB:=fB.bh tj;replace hM:=tj.lt hM;have:=S.size;replace S:=S.ax tj;refine ad (aj (aj (ah (ae rfl rfl (bM dp rfl hv rfl (ae rfl rfl (ad (aY ?_))))))));refine dr (σ:=Nat×Value×Value) (fun q=>[(4,.pointer (some ⟨b1,0,none⟩)),(5,.pointer (some ⟨fi,0,none⟩)),(12,v0),(13,.int .i64 (L.length:Int)),(14,.int .i64 (q.1:Int))]) (fun q w=>∃M' words,Lt M' w∧Step M w0 M' w aA∧(RT.en.sl).V M' w L v0∧lM (ZP w0.heap.size fi q.2.1 q.2.2) M' w w0.heap.size b1 (L.take q.1) words (kU (-1) (L.take q.1))∧w.heap[fi]? =some (.cells #[q.2.1,q.2.2,.slice none 0 0,.slice none 0 0] 58 (0,0))∧M' fi∧Own (RT.int .i64) 3 M' w w0.heap.size q.2.1 ((L.take q.1).map (·.1.1))∧Own (RT.int .i64) 3 M' w w0.heap.size q.2.2 ((L.take q.1).map (·.2))∧iS q.2.1 q.2.2∧0≤words∧words≤500*(q.1:Int)∧q.1≤L.length) (fun q=>L.length-q.1) (0,.slice none 0 0,.slice none 0 0) (.cons rfl (.cons rfl (.cons rfl (.cons rfl (.cons rfl .nil))))) ?_ ?_
 ·exact⟨_,0,hM,S,hv,fB.D1 (Z':=ZP w0.heap.size fi (.slice none 0 0) (.slice none 0 0)) (fun c hc dC=>⟨hc.1,(fun h=>by have:=hc.2;omega),(fun h=>by cases h),(fun h=>by cases h)⟩),zk,tp,dK _ _ _ _ _,dK _ _ _ _ _,iS.nil _,by omega,by omega,bB _⟩
 ·clear hM S hv fB;rintro⟨i,vi,vs⟩ w ⟨M2,words,hM,S,hv,fB,g2,cV,lh,ll,Js,XJ,hw2,hi⟩;dsimp only at fB g2 lh ll Js hw2 hi ⊢;refine aj (ah (b4 rfl rfl rfl (ad (aj ?_))));refine bH rfl (fun c4=>?_) (fun c4=>?_)
  ·refine aS (aj (aY (aj (ah ?_))));refine cK (M:=M2) dp uD rfl rfl rfl hv (ao _ _) (by omega) (fun u5 e DJ Bk=>?_);rw[aw]at DJ;obtain⟨Lu,Ov⟩:=Hs eO DJ;have hem:=aI DJ;refine b5 (M:=M2) (A:=RT.en) cn rfl uD (by decide) rfl rfl rfl Bk (ao _ _) (fun v5 ou=>?_);obtain⟨Pn,uC⟩:=Oe ou;refine mz (A:=RT.en) (M:=M2) uD rfl rfl rfl rfl rfl (by assumption) (ao _ _) hM (fun X5 agZ rf AB ag0=>?_);have:=ak g2;replace cV:=(AB.mem _ this).2 cV;replace g2:=AB.aM g2;replace hv:=hv.le AB.le;replace lh:=lh.bh AB;replace ll:=ll.bh AB;replace fB:=fB.bh AB;replace hM:=AB.lt hM;have:=S.size;replace S:=S.ax AB;refine ad (aj (aj (ah (ae rfl rfl ?_))));refine b5 (M:=M2) (A:=RT.en) cn rfl uD (by decide) rfl rfl rfl rf (ao _ _) (fun v6 ot=>?_);refine aQ rfl rfl E57 (GR (Z:=ZP w0.heap.size fi vi vs) _ hM (fun k hk=>⟨by have:=S.size;omega,fun h=>by have:=ak g2;omega,fun h=>by have:=(lh.base k h).2;omega,fun h=>by have:=(ll.base k h).2;omega⟩) fB (by have:=S.size;omega) ot (hl e hem) (fun x hx=>hF x (List.mem_of_mem_take hx)) (by simp;omega) (by omega)) (fun r6 w6 hc=>?_);obtain⟨M6,G8,s6,rfl,_,LY⟩:=hc;replace fB:=LY Lu;have K5:(o6 e).length≤500:=(hF e hem).many;refine bz (v':= .int .i64 0) (by rw[Lu]) ?_;replace lh:=lh.step s6 (fun c hc h=>h.1.2.2.1 hc);replace ll:=ll.step s6 (fun c hc h=>h.1.2.2.2 hc);replace cV:=(s6.mem _ (ak g2)).2 cV;replace g2:=s6.bJ g2 (fun h=>h.1.2.1 rfl);replace hv:=hv.le s6.le;replace rf:=rf.le (by decide) s6.le;replace S:=S.cC s6 (fun k hk=>hk.1.1);replace hM:=G8;rw[Ov.symm]at fB;refine ai rfl rfl (ad (aj (ah (ae rfl rfl (eW rfl rfl rfl (ad (T.AY rfl ((fun h=>h rfl)) (aS ?_))))))));have Uq:=g2;have SN:=cV
   have Y8:=hv;have SO:=fB;have HF:=lh;have HG:=ll;have hMp:=hM;have Sp:=S;obtain⟨P6,Zz⟩:∃P6:Value→World→Prop,P6=fun v w'=>Own (RT.int .i64) 3 (nX v) w' w0.heap.size v ((L.take i).map (·.1.1)++[e.1.1])∧(∀c,v.ownBlock=some c→w6.heap.size≤c∨vi.ownBlock=some c):=⟨_,rfl⟩
   have h6:∀{v:Value} {w w':World},P6 v w→Step M6 w M6 w' aA→P6 v w':=fun {v w w'} h s=>by rw[Zz]at h ⊢;exact⟨h.1.Lq s (fun _ _ h=>h),h.2⟩
   apply T.Sx (M:=M6) [0,1,2,3,4,5,6,7,8,9,10,11,13,12,14,15,16] 13 12 37 (.pointer (some ⟨fi,0,none⟩)) [(6,jj vi)] [cg.eq (.pointer (some ⟨fi,0,none⟩)),cg.eq vi,cg.ptr RT.dc e.1,cg.ptr (RT.int .i64) e.1.1,cg.eq (.int .i64 e.1.1),cg.V ((RT.int .i64).sl) [e.1.1],(cg.mk' (fun v w=>P6 v w) (fun h s=>h6 h s)),cg.eq (.pointer (some ⟨fi,1,none⟩)),cg.eq vs,cg.ptr (RT.int .i64) e.2,cg.eq (.int .i64 e.2),cg.V ((RT.int .i64).sl) [e.2],cg.eq (.pointer (some ⟨fi,0,none⟩))] mixed
   ·simp+decide only[xu,rB,fj,List.map_nil,List.getD_cons_zero,List.getD_cons_succ,List.map_toArray,dN,rU,List.idxOf_cons,cond_true,cond_false,Nat.reduceBEq,Nat.reduceAdd,beq_self_eq_true];rfl
   ·rfl
   ·rfl
   ·rfl
   ·rfl
   ·rfl
   ·rfl
   ·rfl
   ·rfl
   ·rfl
   ·rfl
   ·rfl
   ·exact fun ρ w h=>B3 (size:=1) (o:=0) (o':=0) cH rfl rfl nY (by decide) (h (.tmp 5) _ rfl) w
   ·intro p hp b hb;simp only[du,List.not_mem_nil,or_false]at hp;subst hp;exact lh.mut_ b hb
   ·exact fun p hp=>by
     simp only[du,List.not_mem_nil,or_false]at hp;subst hp;show(6:Nat)≠12;decide
   ·exact ru.st (by exact⟨fun _ _ _ _=>trivial,⟨fun _ _ _ _=>trivial,⟨fun _ _ _ _=>trivial,⟨fun _ _ _ _=>trivial,⟨fun _ _ _ _=>trivial,⟨fun _ _ _ _=>trivial,⟨fun p hp b hb=>(by simp at hp),⟨fun _ _ _ _=>trivial,⟨fun _ _ _ _=>trivial,⟨fun _ _ _ _=>trivial,⟨fun _ _ _ _=>trivial,⟨fun _ _ _ _=>trivial,⟨fun _ _ _ _=>trivial,trivial⟩⟩⟩⟩⟩⟩⟩⟩⟩⟩⟩⟩⟩)
   intro wR9 ZA;have HH:=ZA M6;have:=ak g2;replace cV:=(HH.mem _ this).2 cV;replace g2:=HH.aM g2;replace hv:=hv.le HH.le;replace rf:=rf.le (by decide) HH.le;replace lh:=lh.bh HH;replace ll:=ll.bh HH;replace fB:=fB.bh HH;replace hM:=HH.lt hM;have:=S.size;replace S:=S.ax HH;have ZB:=g2;have SP:=lh;have ag3:=ll;have hz6:=HH.size;refine⟨?_,?_⟩
   ·refine aG ?_ ?_
    ·intro wD E sD;replace sD:Step M6 _ M6 wD (jj vi):=sD;refine aV (o':=0) cH rfl rfl nY (by decide) rfl rfl ?_;exact ad ⟨rfl,rfl,_,rfl,rfl,an _ _⟩
    refine aG ?_ ?_
    ·intro wD E sD;replace sD:Step M6 _ M6 wD aA:=sD;refine ay (aH au rfl rfl rfl (sD.aM ZB) rfl ?_);exact ad ⟨rfl,rfl,_,rfl,rfl,an _ _⟩
    refine aG ?_ ?_
    ·intro wD E sD;replace sD:Step M6 _ M6 wD (jj vi):=sD;refine aF (M:=M6) (A:=RT.en) (B:=RT.dc) cn rfl rfl kE (by decide) O1 rfl rfl (by decide) rf sD.le (fun uf yj=>?_);exact ad ⟨rfl,rfl,_,rfl,yj,an _ _⟩
    refine aG ?_ ?_
    ·intro wD E sD;replace sD:Step M6 _ M6 wD (jj vi):=sD;intro v2 xF;refine aF (M:=M6) (A:=RT.dc) (B:=RT.int .i64) aK rfl rfl I3 (by decide) QN rfl rfl (by decide) (show cp RT.dc M6 wD v2 e.1 from xF) (ao _ _) (fun uf yj=>?_);exact ad ⟨rfl,rfl,_,rfl,yj,an _ _⟩
    refine aG ?_ ?_
    ·intro wD E sD;replace sD:Step M6 _ M6 wD (jj vi):=sD;intro v3 uU;refine bV (M:=M6) ar rfl rfl (show cp (RT.int .i64) M6 wD v3 e.1.1 from uU) (ao _ _) (fun lQ=>?_);exact ad ⟨rfl,rfl,_,rfl,rfl,an _ _⟩
    refine aG ?_ ?_
    ·intro wD E sD;replace sD:Step M6 _ M6 wD aA:=sD;refine ay ?_;refine eh (A:=RT.int .i64) (hn:=by decide) (M:=M6) au I3 (by decide) rfl rfl (sD.lt hM) (fW Pn) (.inr ⟨rfl,rfl⟩) (fun uS wS hS sS=>?_);exact ad ⟨rfl,rfl,_,rfl,hS,sS⟩
    refine aG ?_ ?_
    ·intro wD E sD;replace sD:Step M6 _ M6 wD aA:=sD;refine ay ?_;intro v5 ou;replace sD:Step M6 wR9 M6 wD aA:=sD;refine Rg.kK (M:=M6) (base:=w0.heap.size) au I3 rfl rfl rfl rfl (SP.bh sD) (show((RT.int .i64).sl).V M6 wD [e.1.1] v5 from ou) (ao _ _) (by simp;omega) (by simp;omega) (by have:=sD.size;have:=S.size;omega) (fun vA wA hoA sA hFA=>?_);exact ad ⟨rfl,rfl,_,rfl,by show P6 vA wA;rw[Zz];exact⟨hoA.lone,fun c hc=>(hFA c hc).elim (fun h=> .inl (by have:=sD.size;omega)) .inr⟩,sA.back⟩
    refine aG ?_ ?_
    ·intro wD E sD;replace sD:Step M6 _ M6 wD (jj vi):=sD;refine aV (o':=1) cH rfl rfl nY (by decide) rfl rfl ?_;exact ad ⟨rfl,rfl,_,rfl,rfl,an _ _⟩
    refine aG ?_ ?_
    ·intro wD E sD;replace sD:Step M6 _ M6 wD (jj vi):=sD;refine ay (aH au rfl rfl rfl (sD.bJ ZB (fun h=>SP.eR ZB (by decide) h)) rfl ?_);exact ad ⟨rfl,rfl,_,rfl,rfl,an _ _⟩
    refine aG ?_ ?_
    ·intro wD E sD;replace sD:Step M6 _ M6 wD (jj vi):=sD;refine aF (M:=M6) (A:=RT.en) (B:=RT.int .i64) cn rfl rfl I3 (by decide) O2 rfl rfl (by decide) rf sD.le (fun uf yj=>?_);exact ad ⟨rfl,rfl,_,rfl,yj,an _ _⟩
    refine aG ?_ ?_
    ·intro wD E sD;replace sD:Step M6 _ M6 wD (jj vi):=sD;intro v9 Jh;refine bV (M:=M6) ar rfl rfl (show cp (RT.int .i64) M6 wD v9 e.2 from Jh) (ao _ _) (fun lQ=>?_);exact ad ⟨rfl,rfl,_,rfl,rfl,an _ _⟩
    refine aG ?_ ?_
    ·intro wD E sD;replace sD:Step M6 _ M6 wD (jj vi):=sD;refine ay ?_;refine eh (A:=RT.int .i64) (hn:=by decide) (M:=M6) au I3 (by decide) rfl rfl (sD.lt hM) (fW uC) (.inr ⟨rfl,rfl⟩) (fun uS wS hS sS=>?_);exact ad ⟨rfl,rfl,_,rfl,hS,sS⟩
    refine aG ?_ ?_
    ·intro wD E sD;replace sD:Step M6 _ M6 wD (jj vi):=sD;refine ay (ay ?_);intro v2 xF;intro v3 uU;refine ay ?_;intro v5 ou;intro v6 ot;refine ay (ay (aV (o':=0) cH rfl rfl nY (by decide) rfl rfl ?_));exact ad ⟨rfl,rfl,_,rfl,rfl,an _ _⟩
    exact bI.nil
   ·intro NQ wL;replace wL:Step M6 _ M6 NQ (jj vi):=wL;refine ay (ay ?_);intro Xn GU;intro ag6 acR;refine ay ?_;intro ag7 acS;intro yr Da;refine ay (ay ?_);intro ag8 acT;refine ay ?_;intro SQ Ce;refine ay ?_;replace Da:P6 yr NQ:=Da;rw[Zz]at Da;obtain⟨qW,ZC⟩:=Da;replace Ce:((RT.int .i64).sl).V M6 NQ [e.2] SQ:=Ce;have sX:Step M6 w6 M6 NQ (jj vi):=(HH.ca (fun _ h=>h.elim) (fun b h=>HF.mut_ b h)).trans wL (fun b _ h=>h);have ZD:=HG.step sX (fun c hc h=>Js c h hc);refine Rg.kK (M:=M6) (base:=w0.heap.size) au I3 rfl rfl rfl rfl ZD Ce (ao _ _) (by simp;omega) (by simp;omega) (by have:=Sp.size;have:=sX.size;omega) (fun v12 Ja ZE n0 SR=>?_)
    have Gq:∀c,yr.ownBlock=some c→vs.ownBlock≠some c:=fun c hc hv=>by
     rcases ZC c hc with h|h
     ·have:=(HG.base c hv).2;omega
     ·exact Js c h hv
    have SS:=qW.Lq n0 (fun c hc h=>Gq c hc h)
    have SU:iS v12 yr:=fun c hc SV=>by
     rcases SR c hc with h|h
     ·have:=(qW.base c SV).2;omega
     ·exact Gq c SV h
    have J4:∀c,v12.ownBlock=some c→w6.heap.size≤c∨vs.ownBlock=some c:=fun c hc=>(SR c hc).elim (fun h=> .inl (by have:=sX.size;omega)) .inr
    have sZ:Step M6 w6 (jA M6 v12) Ja (fun k=>jj vi k∨jj vs k):=(sX.ca (fun _ h=> .inl h) (fun b h=>h.elim (HF.mut_ b) (HG.mut_ b))).trans n0 (fun b _ h=> .inr h);obtain⟨SY,Ow⟩:∃M',M'=jA (jA M6 v12) yr:=⟨_,rfl⟩;have sW:Step M6 w6 SY Ja (fun k=>jj vi k∨jj vs k):=by rw[Ow];exact sZ.YX (fun c hc=>⟨(SS.base c hc).2,(ZC c hc).elim .inl (fun h=> .inr (.inr (HF.mut_ c h)))⟩)
    have lh:=SS.IN (M':=SY) (by rw[Ow];exact fun b hb=> .inl hb);have ll:=ZE.IN (M':=SY) (by rw[Ow];exact fun b hb=> .inr (.inl hb));have cV:=(sW.mem _ (ak Uq)).2 SN;have g2:=sW.bJ Uq (fun h=>h.elim (HF.eR Uq (by decide)) (HG.eR Uq (by decide)));have fB:=((SO.D1 (Z':=fun k=>ZP w0.heap.size fi vi vs k∧ZP w0.heap.size fi yr v12 k) (fun c hc dC=>⟨hc,hc.1,hc.2.1,fun h=>(ZC c h).elim (fun h=>by omega) hc.2.2.1,fun h=>(J4 c h).elim (fun h=>by omega) hc.2.2.2⟩)).step sW (fun k hk hz=>hk.elim hz.1.2.2.1 hz.1.2.2.2)).D1 (Z':=ZP w0.heap.size fi yr v12) (fun c hc _=>hc.2);have hv:=Y8.le sW.le;have S:=Sp.cC sW (fun k hk=>hk.elim (fun h=>(HF.base k h).1) (fun h=>(HG.base k h).1));have hM:=sW.lt hMp;refine ad ⟨rfl,rfl,fun h=>absurd rfl h,?_⟩;refine bS (M:=SY) nY rfl rfl g2 rfl (by obtain⟨_,_,he,_⟩:=lh.isSlice;rw[he];rfl) cV (fun Q7 g14 jv=>?_);replace g14:Q7.heap[fi]? =some (.cells #[yr,vs,.slice none 0 0,.slice none 0 0] 58 (0,0)):=g14;replace lh:=lh.step jv (fun c hc (h:c=fi)=>lh.eR g2 (by decide) (h▸hc));replace ll:=ll.step jv (fun c hc (h:c=fi)=>ll.eR g2 (by decide) (h▸hc));replace cV:=(jv.mem _ (ak g2)).2 cV;replace fB:=fB.step jv (fun k (hk:k=fi) hz=>hz.2.1 hk);replace hv:=hv.le jv.le;replace S:=S.cC jv (fun k (hk:k=fi)=>by rw[hk];omega);replace hM:=jv.lt hM;clear g2;have g2:=g14;refine ad ⟨rfl,rfl,fun h=>absurd rfl h,?_⟩;refine aV (o':=1) cH rfl rfl nY (by decide) rfl rfl ?_;refine ad ⟨rfl,rfl,fun h=>absurd rfl h,?_⟩;refine bS (M:=SY) nY rfl rfl g2 rfl (by obtain⟨_,_,he,_⟩:=ll.isSlice;rw[he];rfl) cV (fun JR g16 vr=>?_);replace g16:JR.heap[fi]? =some (.cells #[yr,v12,.slice none 0 0,.slice none 0 0] 58 (0,0)):=g16;replace lh:=lh.step vr (fun c hc (h:c=fi)=>lh.eR g2 (by decide) (h▸hc));replace ll:=ll.step vr (fun c hc (h:c=fi)=>ll.eR g2 (by decide) (h▸hc));replace cV:=(vr.mem _ (ak g2)).2 cV
    replace fB:=fB.step vr (fun k (hk:k=fi) hz=>hz.2.1 hk);replace hv:=hv.le vr.le;replace S:=S.cC vr (fun k (hk:k=fi)=>by rw[hk];omega);replace hM:=vr.lt hM;clear g2;have g2:=g16;refine ad ⟨rfl,rfl,fun h=>absurd rfl h,?_⟩;refine qG (ah (bu rfl rfl rfl (by omega) (ae rfl rfl (ad ?_))));have et:L.take (i+1)=L.take i++[e]:=by rw[bN,DJ,ck]
    rw[et]at fB;refine⟨rfl,(i+1,yr,v12),(.cons rfl (.cons rfl (.cons rfl (.cons rfl (.cons rfl .nil))))),?_,?_⟩
    ·exact⟨_,_,hM,S,hv,by rw[et];exact fB,g2,cV,by rw[et,eL];exact lh,by rw[et,eL];exact ll,SU.symm,by omega,by dsimp only;omega,by dsimp only;omega⟩
    ·dsimp only;omega
  ·refine cG (aj (ah ?_));have hLi:L.take i=L:=aW (by omega);rw[hLi]at fB lh ll;refine ae rfl rfl ?_;refine aQ rfl rfl E58 (BP _ hM fB hF (by omega)) (fun rk Uj hc=>?_);obtain⟨wV,yG⟩:=hc;have:=ak g2;replace cV:=(yG.mem _ this).2 cV;replace g2:=yG.aM g2;replace hv:=hv.le yG.le;replace lh:=lh.bh yG;replace ll:=ll.bh yG;replace fB:=fB.bh yG;replace hM:=yG.lt hM;have:=S.size;replace S:=S.ax yG;refine aV (o':=2) cH rfl rfl Ie (by decide) rfl rfl ?_;refine bS (M:=M2) Ie rfl rfl g2 rfl (kb wV rfl rfl) cV (fun zy cx eE=>?_);change zy.heap[_]? =some (Obj.cells #[vi,vs,rk,.slice none 0 0] _ _)at cx;have:=ak g2;replace cV:=(eE.mem _ this).2 cV;replace hv:=hv.le eE.le;replace wV:=wV.le eE.le;replace lh:=lh.step eE (fun c hc (h:c=fi)=>lh.eR g2 (by decide) (h▸hc));replace ll:=ll.step eE (fun c hc (h:c=fi)=>ll.eR g2 (by decide) (h▸hc));replace fB:=fB.stepT eE (by first|exact fun k hk=>by(obtain⟨cs,hc⟩:=o5.isCells hk;exact⟨cs,_,hc,by decide,by decide,by decide⟩)|exact fun k (hk:k=fi)=>⟨_,_,hk▸g2,by decide,by decide,by decide⟩);replace hM:=eE.lt hM;have:=S.size;replace S:=S.trans eE (fun k hk h=>by have h:_=_:=h;subst h;first|(exfalso;omega)|(show _≤_;omega)|exact⟨by first|omega|assumption,(S.mem _ hk).1 ((eE.mem _ (ak g2)).1 cV)⟩|exact .inl rfl|exact .inr rfl|exact .inr (.inl rfl)|exact .inr (.inr rfl)|exact rfl);have F9:=cx;clear g2;have g2:=F9;clear F9;refine ad (aj (aj (ah (aV (o':=2) cH rfl rfl Ie (by decide) rfl rfl (aH a8 rfl rfl rfl g2 rfl (bz (v':=rk) rfl (bM a8 rfl wV rfl (ae rfl rfl (ad (aY ?_))))))))));refine dr (σ:=Nat×Value) (fun q=>[(4,.pointer (some ⟨b1,0,none⟩)),(5,.pointer (some ⟨fi,0,none⟩)),(44,rk),(45,.int .i64 ((keysOf L).length:Int)),(46,.int .i64 (q.1:Int))]) (fun q w=>∃M',Lt M' w∧Step M w0 M' w aA∧lM (ZP w0.heap.size fi vi vs) M' w w0.heap.size b1 L words (kU (-1) L)∧w.heap[fi]? =some (.cells #[vi,vs,rk,q.2] 58 (0,0))∧M' fi∧Own (RT.int .i64) 3 M' w w0.heap.size vi (L.map (·.1.1))∧Own (RT.int .i64) 3 M' w w0.heap.size vs (L.map (·.2))∧Own ((RT.po).sl) 107 M' w w0.heap.size q.2 (((keysOf L).take q.1).map (pk L))∧(RT.str.sl).V M' w (keysOf L) rk∧q.1≤(keysOf L).length) (fun q=>(keysOf L).length-q.1) (0,.slice none 0 0) (.cons rfl (.cons rfl (.cons rfl (.cons rfl (.cons rfl .nil))))) ?_ ?_
   ·exact⟨_,hM,S,fB,g2,cV,lh,ll,dK _ _ _ _ _,wV,bB _⟩
   ·clear hM S fB g2 cV lh ll wV hv;rintro⟨i3,vl⟩ w ⟨M3,hM,S,fB,g2,cV,lh,ll,o5,wV,UF⟩;dsimp only at g2 o5 UF ⊢;refine aj (ah (b4 rfl rfl rfl (ad (aj ?_))));refine bH rfl (fun FU=>?_) (fun FU=>?_)
    ·refine aS (aj (aY (aj (ah ?_))));refine cK (M:=M3) a8 I9 rfl rfl rfl wV (ao _ _) (by omega) (fun u14 k Ox ZF=>?_);rw[aw]at Ox;refine bY (M:=M3) aC rfl rfl rfl rfl rfl ZF (ao _ _) (fun vk hvk=>?_);obtain rfl:=eD hvk;refine ai rfl rfl (ad ?_);apply T.ni 4 [0,1] 2 aA mixed rfl rfl rfl rfl;intro NM Hc;have mV:=Hc M3;have:=ak g2;replace cV:=(mV.mem _ this).2 cV;replace g2:=mV.aM g2;replace wV:=wV.le mV.le;replace lh:=lh.bh mV;replace ll:=ll.bh mV;replace o5:=o5.bh mV;replace fB:=fB.bh mV;replace hM:=mV.lt hM;have:=S.size;replace S:=S.ax mV;refine aV (o':=3) cH rfl rfl Ph (by decide) rfl rfl ?_;refine ad ⟨rfl,rfl,rfl,?_⟩;refine aH Tryz.underlying56 rfl rfl rfl (by first|assumption|exact cc mV (by assumption)) rfl ?_;refine ad ⟨rfl,rfl,rfl,?_⟩;refine ae rfl rfl ?_;refine ad ⟨rfl,rfl,rfl,?_⟩;refine ae rfl rfl ?_;refine ad ⟨rfl,rfl,rfl,?_⟩;refine fa ?_;refine⟨iM ⟨mA cH rfl Ph (by decide),⟨gw rfl g2 (fun h=>h),trivial⟩⟩,?_⟩;have kp:=kG aA NM;refine aQ rfl rfl E59 (BQ (k:=k) _ hM fB hF (by omega) (by have:=Ju k (aI Ox);omega)) (fun r15 QX hc=>?_);obtain⟨GW,xV⟩:=hc;have:=ak g2;replace cV:=(xV.mem _ this).2 cV;replace g2:=xV.aM g2;replace wV:=wV.le xV.le;replace lh:=lh.bh xV;replace ll:=ll.bh xV;replace o5:=o5.bh xV;replace fB:=fB.bh xV;replace hM:=xV.lt hM;have:=S.size;replace S:=S.ax xV;refine(fun(kp:eB _ _ _)=>ad ⟨rfl,rfl,fun _=>kp,?_⟩) (by first|exact kp|exact kp.rA (by assumption)|exact kp.goN (by assumption)|exact kp.go (by assumption) (fun _ _ h=>by first|exact h|exact h.elim));refine eh (A:=((RT.po).sl)) (hn:=by decide) (M:=M3) Tryz.underlying56 jQ (by decide) rfl rfl hM (GW) (.inr ⟨rfl,rfl⟩) (fun acU Lc uh il=>?_)
     have:=ak g2;replace cV:=(il.mem _ this).2 cV;replace g2:=il.aM g2;replace wV:=wV.le il.le;replace GW:=GW.le il.le;replace lh:=lh.bh il;replace ll:=ll.bh il;replace o5:=o5.bh il;replace fB:=fB.bh il;replace hM:=il.lt hM;have:=S.size;replace S:=S.ax il;refine(fun(kp:eB _ _ _)=>ad ⟨rfl,rfl,fun _=>kp,?_⟩) (by first|exact kp|exact kp.rA (by assumption)|exact kp.goN (by assumption)|exact kp.go (by assumption) (fun _ _ h=>by first|exact h|exact h.elim));refine cR (M:=M3) (base:=w0.heap.size) Tryz.underlying56 jQ rfl rfl rfl rfl o5 uh (ao _ _) (by simp;omega) (by simp;omega) (S.size) (fun Lv S0 acV Oy oz=>?_);have:=ak g2;replace cV:=(oz.mem _ this).2 cV;replace g2:=oz.bJ g2 (fun h=>by first|exact o5.dE g2 h|exact o5.eR g2 (by decide) h|(have:=(o5.base _ h).1;omega));replace wV:=wV.le oz.le;replace GW:=GW.le oz.le;replace uh:=uh.le oz.le;replace lh:=lh.step oz (fun b h1 h2=>lh.iG o5 (by decide) h1 h2);replace ll:=ll.step oz (fun b h1 h2=>ll.iG o5 (by decide) h1 h2);replace fB:=fB.stepT oz (by first|exact fun k hk=>by(obtain⟨cs,hc⟩:=o5.isCells hk;exact⟨cs,_,hc,by decide,by decide,by decide⟩)|exact fun k (hk:k=fi)=>⟨_,_,hk▸g2,by decide,by decide,by decide⟩);replace hM:=oz.lt hM;have:=S.size;replace S:=S.dd oz o5 (a7 _);replace o5:=Oy;refine ad ⟨rfl,rfl,fun h=>absurd rfl h,?_⟩;refine aV (o':=3) cH rfl rfl Ph (by decide) rfl rfl ?_;refine ad ⟨rfl,rfl,fun h=>absurd rfl h,?_⟩;refine bS (M:=S0) Ph rfl rfl g2 rfl (by obtain⟨_,_,he,_⟩:=o5.isSlice;rw[he];rfl) cV (fun S8 Lw nN=>?_);change S8.heap[_]? =some (Obj.cells #[vi,vs,rk,Lv] _ _)at Lw;have:=ak g2;replace cV:=(nN.mem _ this).2 cV;replace wV:=wV.le nN.le;replace GW:=GW.le nN.le;replace uh:=uh.le nN.le;replace lh:=lh.step nN (fun c hc (h:c=fi)=>lh.eR g2 (by decide) (h▸hc))
     replace ll:=ll.step nN (fun c hc (h:c=fi)=>ll.eR g2 (by decide) (h▸hc));replace o5:=o5.step nN (fun c hc (h:c=fi)=>o5.eR g2 (by decide) (h▸hc));replace fB:=fB.stepT nN (by first|exact fun k hk=>by(obtain⟨cs,hc⟩:=o5.isCells hk;exact⟨cs,_,hc,by decide,by decide,by decide⟩)|exact fun k (hk:k=fi)=>⟨_,_,hk▸g2,by decide,by decide,by decide⟩);replace hM:=nN.lt hM;have:=S.size;replace S:=S.trans nN (fun k hk h=>by have h:_=_:=h;subst h;first|(exfalso;omega)|(show _≤_;omega)|exact⟨by first|omega|assumption,(S.mem _ hk).1 ((nN.mem _ (ak g2)).1 cV)⟩|exact .inl rfl|exact .inr rfl|exact .inr (.inl rfl)|exact .inr (.inr rfl)|exact rfl);have F9:=Lw;clear g2;have g2:=F9;clear F9;refine ad ⟨rfl,rfl,fun h=>absurd rfl h,?_⟩;refine qG (ah (bu rfl rfl rfl (by omega) (ae rfl rfl (ad ?_))));refine⟨rfl,(i3+1,Lv),(.cons rfl (.cons rfl (.cons rfl (.cons rfl (.cons rfl .nil))))),?_,?_⟩
     ·exact⟨_,hM,S,fB,g2,cV,lh,ll,by rw[bN,Ox,ck,eL];exact o5,wV,by dsimp only;omega⟩
     ·dsimp only;omega
    ·refine cG (aj (ah (ix (vs:=[vi,vs,rk,vl]) cH rfl Ul rfl rfl rfl g2 ?_)));rw[aW (by omega)]at o5;have RD:RT.pa.V M _ (fM L) _:=W6 (x:=fM L) (lh.close iL S (by show(L.map _).length≤_;rw[ch];omega)) (ll.close iL S (by show(L.map _).length≤_;rw[ch];omega)) (wV.le (Le.close iL S)) (o5.close iL S (by show((keysOf L).map _).length≤_;rw[ch];omega));replace S:=S.back;replace hM:=S.lt iL;refine aQ rfl rfl E27 (B1 (p:=fM L) _ hM RD (JZ hF (by omega))) (fun r17 w17 hc=>?_);obtain⟨YC,Ta,_⟩:=hc;obtain⟨sg,rfl,xH⟩:=Ta (Od eO (by omega));replace S:=S.ax YC;refine bU rfl rfl rfl (bU rfl rfl rfl (ai rfl rfl (ai rfl rfl (ad (aL ?_)))));exact eN rfl rfl rfl ⟨sg,rfl,xH,S⟩
end Go.K
namespace Go.K
open Go.Proofs
namespace TKSegF
theorem Tb:placesOf Tryz.prog 127=[(0,1),(1,1)].map some:=by kernel_rfl
theorem Tc:Enters Tryz.prog 15:=enters Tryz.func15 rfl (by decide)
theorem ZG:Enters Tryz.prog 67:=enters Tryz.func67 rfl (by decide)
theorem Uo:Enters Tryz.prog 70:=enters Tryz.func70 rfl (by decide)
end TKSegF
open TKSegF
set_option maxRecDepth 10000
theorem qE {id:Int}:∀(fs:List Fd) (i:Nat) (out:List Fd),kI (id,out)=0→kI (id,lI id i out fs)=0
 |[],_,_,h=>h
 |x::fs,i,out,h=>by
  unfold lI
  split
  ·split
   ·rename_i h1;exact qE fs _ _ h1
   ·exact qE fs _ _ h
  ·exact h
theorem mv {id:Int}:∀(fs:List Fd) (i:Nat) (out:List Fd),oS out→oS (lI id i out fs)
 |[],_,_,h=>h
 |x::fs,i,out,h=>by
  unfold lI
  split
  ·rename_i hi
   split
   ·exact mv fs _ _ (h.snoc (tz x hi))
   ·exact mv fs _ _ h
  ·exact h
theorem wW (d:Dc):kI (mG d)=0:=qE d.2 0 [] rfl
theorem AD (d:Dc):oS (mG d).2:=mv d.2 0 [] (fun x h=>by cases h)
theorem AE {e:En}:∀{L:List En} {last:Int},tW last (L++[e])=(tW last L&&decide (jP (kU last L) e=0))
 |[],last=>by show(decide (jP last e=0)&&true)=(true&&decide (jP last e=0));rw[iz,cZ]
 |x::L,last=>by rw[iT];show(decide (jP last x=0)&&tW x.2 (L++[e]))=(decide (jP last x=0)&&tW x.2 L&&decide (jP (kU x.2 L) e=0));rw[AE (L:=L),Bool.and_assoc]
theorem ui {e:En}:∀{L:List En} {last:Int},kU last (L++[e])=e.2
 |[],_=>rfl
 |x::L,last=>by simp only[iT,kU];exact ui
theorem AF (l:List Dc) {a s:Int} (ha:0≤a) (hs:1≤s):∀k,tW (-1) (eo l a s k)=true∧kU (-1) (eo l a s k)<a+s*(k:Int)
 |0=>⟨rfl,by show(-1:Int)<_;simp;omega⟩
 |k+1=>by
  obtain⟨h1,h2⟩:=AF l ha hs k;have e1:a+s*((k+1:Nat):Int)=a+s*(k:Int)+s:=by rw[Int.natCast_add,Int.mul_add];simp;omega
  cases h:l[k]? with
  |none=>rw[tD (List.getElem?_eq_none_iff.1 h),e1];exact⟨h1,by omega⟩
  |some d=>
   rw[tC h,AE,ui,h1,e1]
   have:jP (kU (-1) (eo l a s k)) (mG d,a+s*(k:Int))=0:=by
    unfold jP;rw[if_neg (fun h=>h (wW d)),if_neg (by show¬(a+s*(k:Int)≤_);omega)]
   exact⟨by rw[this];rfl,by show a+s*(k:Int)<_;omega⟩
theorem qF {l:List Dc} {a s:Int}:∀{k:Nat} {e:En},e∈eo l a s k→∃d,e.1=mG d
 |0,e,h=>by cases h
 |k+1,e,h=>by
  rw[eo]at h;rcases cY.1 h with h|h
  ·exact qF h
  ·split at h
   ·rename_i d _;rw[cw.1 h];exact⟨d,rfl⟩
   ·cases h
theorem uj {l:List Dc} {a s:Int} {k:Nat}:∀e∈eo l a s k,∀f∈e.1.2,f.1.length≤900000∧f.2.length≤900000:=fun e he f hf=>by
 obtain⟨d,hd⟩:=qF he;rw[hd]at hf;have:=AD d f hf;omega
theorem AG:words [97]=[[97]]:=by
 have h:dZ [97]=[97]:=by rw[l8 (by simp)];simp[dec,y9,iv,ij,nT]
 unfold words;rw[h];simp[ek];rfl
theorem HI:bX [([116],[97])]=[(([116],[97]),0)]:=by
 show fY ([116],[97])++[]=_;unfold fY;rw[AG];rfl
end Go.K
namespace Go.K
open Go.Proofs
namespace TKErsD
theorem wU:TI Tryz.prog 51 (.agg #[(.string ⟨#[]⟩),(.string ⟨#[]⟩),(.int .i64 0)]) 3 40:=by unfold TI;kernel_rfl
theorem Ur:placesOf Tryz.prog 51=[(0,2),(2,1)].map some:=by kernel_rfl
theorem Tb:placesOf Tryz.prog 127=[(0,1),(1,1)].map some:=by kernel_rfl
theorem Tc:Enters Tryz.prog 15:=enters Tryz.func15 rfl (by decide)
theorem Us:Enters Tryz.prog 24:=enters Tryz.func24 rfl (by decide)
end TKErsD
open TKErsD
set_option maxRecDepth 10000
abbrev AH:List En:=[((0,[([116],[97])]),1),((0,[([116],[97])]),5)]
theorem HJ:tW (-1) AH=true:=by
 have h:∀a b:Int,a<b→jP a ((0,[([116],[97])]),b)=0:=by
  intro a b hab
  have hm:kI (0,[([116],[97])])=0:=by
   unfold kI;simp only[tw,AG];decide
  unfold jP;rw[if_neg (fun h=>h hm),if_neg (by show¬b≤a;omega)]
 show(decide (jP (-1) ((0,[([116],[97])]),1)=0)&&(decide (jP 1 ((0,[([116],[97])]),5)=0)&&true))=true;rw[h (-1) 1 (by decide),h 1 5 (by decide)];rfl
theorem J6:J5 (lg (rS (fM AH)).2.2.1 ((keysOf AH).map (pk AH)) (cL ([116],[97]))):=by
 show J5 (lg (keysOf AH) _ _);rw[ua];exact HB (lO HJ) (by decide) _
theorem Oz:(pk AH (cL ([116],[97]))).map (fun p:Po=>p.1)=[0,1]:=by
 show(yF 0 (bX [([116],[97])]) (cL ([116],[97]))++(yF 1 (bX [([116],[97])]) (cL ([116],[97]))++[])).map (fun p:Po=>p.1)=_;rw[HI];decide
theorem Eg:ju (lg (rS (fM AH)).2.2.1 ((keysOf AH).map (pk AH)) (cL ([116],[97]))) (rS (fM AH)).2.1 3=[0]:=by
 show ju (lg (keysOf AH) _ _) [1,5] 3=[0];rw[ua];unfold ju;rw[Oz];decide
theorem yt {M:aB} (w0:World) (hM:Lt M w0):
  Spec Tryz.prog 26 #[] w0 (fun v w=>v= .bool true∧Step M w0 M w aA):=by
 refine aZ (args:=[]) (fn:=Tryz.f26) Tryz.func26 rfl (n:=32) Tryz.ntmps26 ?_;have S:Step M w0 M w0 aA:=(an _ _).ca (fun _ h=>h.elim) (fun _ h=>h.elim);refine aj (ah (ai rfl rfl (ad (aj (ah (dU (places:=[(0,1),(1,1)]) bQ gQ Tb rfl ⟨_,_,rfl,rfl,_,_,rfl,rfl,rfl⟩ (out:=[_,_]) ⟨0,[_],rfl,rfl,by simp[Value.cells],1,[_],rfl,rfl,by simp[Value.cells],rfl⟩ ?_))))));refine eh (A:=RT.fd) (hn:=by decide) (M:=M) aP gQ (by decide) rfl rfl hM (xX (t:=([116],[97])) (by decide) (by decide)) (.inl rfl) (fun ZH Jn oA oV=>?_);replace hM:=oV.lt hM;have:=S.size;replace S:=S.ax oV;refine dU (places:=[(0,1),(1,1)]) aK kE PZ rfl ⟨_,_,rfl,rfl,rfl⟩ (out:=[.int .i64 0,_]) ⟨1,[_],rfl,iB oA,by simp[Value.cells],rfl⟩ ?_;have Kw:RT.dc.V M _ (0,[([116],[97])]) (.agg #[.int .i64 0,ZH]):=ef (fW (by decide)) oA rfl rfl rfl rfl;refine mz (A:=RT.dc) (M:=M) kE rfl rfl rfl rfl rfl (by assumption) (ao _ _) hM (fun FC xQ fH s1_3 ahb=>?_);replace oA:=oA.le s1_3.le;replace hM:=s1_3.lt hM;have:=S.size;replace S:=S.ax s1_3;refine ad (aj (ah ?_));refine b5 (M:=M) (A:=RT.dc) aK rfl kE (by decide) rfl rfl rfl fH (ao _ _) (fun v C1=>?_);obtain⟨I6,rfl⟩:=xS C1;refine dU (places:=[(0,2),(2,1)]) cn uD T0 rfl ⟨_,_,rfl,rfl,_,_,rfl,rfl,rfl⟩ (out:=[_,_,_]) ⟨0,[_,_],rfl,rfl,by simp[Value.cells],2,[_],rfl,rfl,by simp[Value.cells],rfl⟩ ?_;refine b5 (M:=M) (A:=RT.dc) aK rfl kE (by decide) rfl rfl rfl fH (ao _ _) (fun v Lx=>?_);obtain⟨Sq,rfl⟩:=xS Lx;refine dU (places:=[(0,2),(2,1)]) cn uD T0 rfl ⟨_,_,rfl,rfl,_,_,rfl,rfl,rfl⟩ (out:=[_,_,_]) ⟨0,[_,_],rfl,rfl,by simp[Value.cells],2,[_],rfl,rfl,by simp[Value.cells],rfl⟩ ?_;refine Rg.Pt (A:=RT.en) (hn:=by decide) (M:=M) (xs:=AH) dp uD rfl (by decide) rfl ⟨_,_,_,rfl,rfl,rfl,CM C1 (by decide),_,_,_,rfl,rfl,rfl,CM Lx (by decide),rfl⟩ rfl hM (.inl rfl) (by decide) (fun u4 w4 vY s4=>?_)
 replace oA:=oA.le s4.le;replace fH:=fH.le (by decide) s4.le;replace hM:=s4.lt hM;have:=S.size;replace S:=S.ax s4;refine aQ rfl rfl Tc (ug (L:=AH) _ hM vY (fun e he f hf=>by simp only[AH,du,List.mem_nil_iff,or_false]at he;rcases he with rfl|rfl<;>(simp only[cw]at hf;subst hf;decide)) (by decide) HJ) (fun r5 w5 hc=>?_);obtain⟨sb,rfl,Ut,s5⟩:=hc;obtain⟨ab,rfl⟩:=Ut.jn;replace oA:=oA.le s5.le;replace fH:=fH.le (by decide) s5.le;replace vY:=vY.le s5.le;replace hM:=s5.lt hM;have:=S.size;replace S:=S.ax s5;refine ae rfl rfl (bU rfl rfl rfl (bU rfl rfl rfl (ai rfl rfl (ai rfl rfl (ad (aj (aj (ah (ae rfl rfl (Rg.y4 Tryz.underlying25 rfl rfl rfl (ad ?_)))))))))));refine T.AY rfl ((by simp)) (aS (aj (ah (ae rfl rfl (dU (places:=[(0,1),(1,1)]) bR o4 B47 rfl ⟨_,_,rfl,rfl,_,_,rfl,rfl,rfl⟩ (out:=[_,_]) ⟨0,[_],rfl,rfl,by simp[Value.cells],1,[_],rfl,rfl,by simp[Value.cells],rfl⟩ (dU (places:=[(0,2),(2,1)]) fE wU Ur rfl ⟨_,_,rfl,rfl,_,_,rfl,rfl,rfl⟩ (out:=[_,_,_]) ⟨0,[_,_],rfl,rfl,by simp[Value.cells],2,[_],rfl,rfl,by simp[Value.cells],rfl⟩ ?_))))));refine aQ rfl rfl Us (ue (e:=(([116],[97]),3)) (ls:=(keysOf AH).map (pk AH)) _ hM Ut (HA ⟨by decide,by decide⟩ (by decide)) (kS AH) rfl (by rw[ch];rfl) J6) (fun r3 w3 hc=>?_);obtain⟨Ou,s3⟩:=hc;rw[Eg]at Ou;replace oA:=oA.le s3.le;replace fH:=fH.le (by decide) s3.le;replace vY:=vY.le s3.le;replace Ut:=Ut.le (by decide) s3.le;replace hM:=s3.lt hM;have:=S.size;replace S:=S.ax s3;refine ai rfl rfl (ad (aj (ah (ae rfl rfl (bM au rfl Ou rfl (Rg.AZ rfl rfl rfl (ae rfl rfl (Rg.Km (g:=26) rfl (rfl) (al rfl rfl (ae rfl rfl (al rfl rfl ?_)))))))))));refine cK (M:=M) au I3 rfl rfl rfl Ou (ao _ _) (by decide) (fun u9 e Ih Jg=>?_)
 refine al rfl rfl ?_;refine bV (M:=M) ar rfl rfl Jg (ao _ _) (fun lQ=>?_);obtain rfl:e=0:=by simpa using Ih.symm
 refine al rfl rfl (Rg.AZ rfl rfl rfl (aR rfl rfl rfl (ai rfl rfl (ad (aL ?_)))));exact aO rfl rfl ⟨rfl,S⟩
end Go.K
namespace Go.K
open Go.Proofs
namespace TKPlc
theorem ZI:Enters Tryz.prog 148:=enters Tryz.func148 rfl (by decide)
end TKPlc
open TKPlc
set_option maxRecDepth 10000
def ec (fs:List Fd) (k:List UInt8):List (List UInt8):=match fs.find? (fun f=>decide (f.1=k))with|some f=>words f.2|none=>[]
theorem AI {fs:List Fd} {k:List UInt8} {i:Nat} {x:Fd} (h:fs[i]? =some x) (hx:x.1=k) (gS:∀(j:Nat) y,j<i→fs[j]? =some y→y.1≠k):ec fs k=words x.2:=by
 have:fs.find? (fun f=>decide (f.1=k))=some x:=by
  induction fs generalizing i with
  |nil=>simp at h
  |cons y fs ih=>
   cases i with
   |zero=>simp at h;subst h;simp[hx]
   |succ i=>
    rw[List.find?_cons_of_neg (by simpa using gS 0 y (by omega) rfl)];exact ih (by simpa using h) (fun j z hj hz=>gS (j+1) z (by omega) (by simpa using hz))
 unfold ec;rw[this]
theorem AJ {fs:List Fd} {k:List UInt8} (h:∀f∈fs,f.1.length≤900000∧f.2.length≤900000):(ec fs k).length≤900001:=by
 unfold ec
 split
 ·rename_i f hf
  have:=lH f.2;have:=(h f (List.mem_of_find?_eq_some hf)).2;omega
 ·simp
theorem yu {fs:List Fd} {k:List UInt8} (gS:∀y∈fs,y.1≠k):ec fs k=[]:=by
 unfold ec;rw[List.find?_eq_none.2 fun y hy=>by simpa using gS y hy]
def oX (ws:List (List UInt8)) (x:List UInt8):List Int:=(ws.zipIdx.filter fun p=>decide (p.1=x)).map fun p=>(p.2:Int)
theorem wY {ws:List (List UInt8)} {x y:List UInt8} {i:Nat} (h:ws[i]? =some y):oX (ws.take (i+1)) x=if y=x then oX (ws.take i) x++[(i:Int)]else oX (ws.take i) x:=by
 have hi:=(av.1 h).1;unfold oX;rw[bN,h,ck,List.zipIdx_append,List.filter_append,eL];simp only[bG,rT (Nat.le_of_lt hi),Nat.zero_add,qa,List.zipIdx_nil];by_cases e:y=x
 ·rw[if_pos e];simp[e]
 ·rw[if_neg e];simp[e]
theorem uk (ws:List (List UInt8)) (x:List UInt8):(oX ws x).length≤ws.length:=by
 unfold oX;rw[ch];exact eK (List.length_filter_le _ _) (by simp)
theorem AK {M:aB} {d:Dc} {k:List UInt8} {v0:Value} (w0:World) (hM:Lt M w0) (hd:RT.dc.V M w0 d v0) (hlen:∀f∈d.2,f.1.length≤900000∧f.2.length≤900000) (C9:d.2.length≤1000000):
  Spec Tryz.prog 148 #[v0,sv k] w0 (fun v w=>(RT.str.sl).V M w (ec d.2 k) v∧Step M w0 M w aA):=by
 have iL:=hM;refine aZ (args:=[_,_]) (fn:=Tryz.f148) Tryz.func148 rfl (n:=28) Tryz.ntmps148 ?_;have S:Step M w0 M w0 aA:=(an _ _).ca (fun _ h=>h.elim) (fun _ h=>h.elim);refine aj (ah ?_);refine gx (A:=RT.dc) (a:=d) rfl rfl hM hd rfl (fun u0 w1 cv s0 _=>?_);replace hM:=s0.lt hM;have:=S.size;replace S:=S.ax s0;refine ai rfl rfl (ad (aj (aj (ah (ai rfl rfl (ad (aY ?_)))))));refine dr (σ:=Nat) (fun i=>[(1,sv k),(2,u0),(5,.int .i64 (i:Int))]) (fun i w=>Step M w0 M w aA∧cp RT.dc M w u0 d∧i≤d.2.length∧(∀(j:Nat) y,j<i→d.2[j]? =some y→y.1≠k)) (fun i=>d.2.length-i) 0 (.cons rfl (.cons rfl (.cons rfl .nil))) ?_ ?_
 ·exact⟨S,cv,bB _,fun j y h=>absurd h (jK _)⟩
 ·clear S cv hM;rintro i w ⟨S,cv,hi,gS⟩;have hM:=S.lt iL;refine aj (aj (ah (ae rfl rfl ?_)));refine aF (M:=M) (A:=RT.dc) (B:=(RT.fd).sl) aK rfl rfl o3 (by decide) AW rfl rfl (by decide) cv (ao _ _) (fun u21 OA=>?_);refine bY (M:=M) aP rfl rfl rfl rfl rfl OA (ao _ _) (fun v22 OB=>?_);refine bM aP rfl OB rfl (b4 rfl rfl rfl (ad ?_));refine bH rfl (fun c2=>?_) (fun c2=>?_)
  ·refine aS (aj (aY (aj (ah ?_))));obtain⟨fx,kZ⟩:∃x,d.2[i]? =some x:=⟨_,aD (by omega)⟩;have Cx:=hlen _ (aI kZ);refine aF (M:=M) (A:=RT.dc) (B:=(RT.fd).sl) aK rfl rfl o3 (by decide) AW rfl rfl (by decide) cv (ao _ _) (fun u40 ZJ=>?_);refine bY (M:=M) aP rfl rfl rfl rfl rfl ZJ (ao _ _) (fun v41 ZK=>?_);refine ae rfl rfl ?_;refine cK (M:=M) aP gQ rfl rfl rfl ZK (ao _ _) (by omega) (fun u43 x kA ZL=>?_);rw[aw]at kA;obtain rfl:=bp (kZ.symm.trans kA);refine aF (M:=M) (A:=RT.fd) (B:=RT.str) bQ rfl rfl I9 (by decide) Jb rfl rfl (by decide) ZL (ao _ _) (fun u44 ZM=>?_);refine bY (M:=M) aC rfl rfl rfl rfl rfl ZM (ao _ _) (fun v45 ZN=>?_);obtain rfl:=eD ZN;refine ae rfl rfl (Rg.vG rfl rfl rfl (ad ?_));refine bH rfl (fun c4=>?_) (fun c4=>?_)
   ·refine aj (ah ?_);refine aF (M:=M) (A:=RT.dc) (B:=(RT.fd).sl) aK rfl rfl o3 (by decide) AW rfl rfl (by decide) cv (ao _ _) (fun u50 ZO=>?_);refine bY (M:=M) aP rfl rfl rfl rfl rfl ZO (ao _ _) (fun v51 ZQ=>?_);refine ae rfl rfl ?_;refine cK (M:=M) aP gQ rfl rfl rfl ZQ (ao _ _) (by omega) (fun u53 x kA ZR=>?_);rw[aw]at kA;obtain rfl:=bp (kZ.symm.trans kA);refine aF (M:=M) (A:=RT.fd) (B:=RT.str) bQ rfl rfl I9 (by decide) O0 rfl rfl (by decide) ZR (ao _ _) (fun u54 OC=>?_);refine bY (M:=M) aC rfl rfl rfl rfl rfl OC (ao _ _) (fun v55 ZS=>?_);obtain rfl:=eD ZS;refine aQ rfl rfl P4 (qU _ hM Cx.2) (fun r6 w6 hc=>?_);obtain⟨hr6,s6⟩:=hc;replace cv:=cv.le (by decide) s6.le;replace hM:=s6.lt hM;have:=S.size;replace S:=S.ax s6;refine ai rfl rfl (ad (aL ?_));exact aO rfl rfl ⟨by rw[AI kZ c4 gS];exact hr6,S⟩
   ·refine aS (ah (ae rfl rfl (bu rfl rfl rfl (by omega) (ai rfl rfl (ad ?_)))));refine⟨rfl,i+1,(.cons rfl (.cons rfl (.cons rfl .nil))),?_,?_⟩
    ·exact⟨S,cv,by omega,fun j y hj hy=>by
      rcases cU j i with h|h
      ·exact gS j y h hy
      ·rw[show j=i by omega,kZ]at hy;cases hy;exact c4⟩
    ·omega
  ·refine cG (aj (ah (ai rfl rfl (ad (aL ?_)))));exact aO rfl rfl ⟨by rw[yu (fun y hy=>by obtain⟨j,hj⟩:=bF.1 hy;exact gS j y (by have:=(av.1 hj).1;omega) hj)];exact jG,S⟩
theorem AL {M:aB} {d:Dc} {t:Fd} {v0 v1:Value} (w0:World) (hM:Lt M w0) (hd:RT.dc.V M w0 d v0) (hlen:∀f∈d.2,f.1.length≤900000∧f.2.length≤900000) (C9:d.2.length≤1000000) (ht:RT.fd.V M w0 t v1):
  Spec Tryz.prog 104 #[v0,v1] w0 (fun v w=>((RT.int .i64).sl).V M w (oX (ec d.2 t.1) t.2) v∧Step M w0 M w aA):=by
 have iL:=hM;have IB:=xT ht;refine aZ (args:=[_,_]) (fn:=Tryz.f104) Tryz.func104 rfl (n:=30) Tryz.ntmps104 ?_;have S:Step M w0 M w0 aA:=(an _ _).ca (fun _ h=>h.elim) (fun _ h=>h.elim);refine aj (ah ?_);refine gx (A:=RT.dc) (a:=d) rfl rfl hM hd rfl (fun u0 w1 cv s0 _=>?_);replace hd:=hd.le s0.le;replace ht:=ht.le s0.le;replace hM:=s0.lt hM;have:=S.size;replace S:=S.ax s0;refine gx (A:=RT.fd) (a:=t) rfl rfl hM ht rfl (fun u1 w2 ry s1 _=>?_);replace ht:=ht.le s1.le;replace cv:=cv.le (by decide) s1.le;replace hM:=s1.lt hM;have:=S.size;replace S:=S.ax s1;refine ai rfl rfl (ad (aj (ah (ai rfl rfl (ad (aj (ah ?_)))))));refine b5 (M:=M) (A:=RT.dc) aK rfl kE (by decide) rfl rfl rfl cv (ao _ _) (fun v20 ZT=>?_);refine aF (M:=M) (A:=RT.fd) (B:=RT.str) bR rfl rfl I9 (by decide) Jb rfl rfl (by decide) ry (ao _ _) (fun u21 OA=>?_);refine bY (M:=M) aC rfl rfl rfl rfl rfl OA (ao _ _) (fun v22 OB=>?_);obtain rfl:=eD OB;refine aQ rfl rfl ZI (AK _ hM ZT hlen C9) (fun r2 w2' hc=>?_);obtain⟨uC,s2⟩:=hc;have Wv:=AJ (k:=t.1) hlen;replace cv:=cv.le (by decide) s2.le;replace ry:=ry.le (by decide) s2.le;replace hM:=s2.lt hM;have:=S.size;replace S:=S.ax s2;refine ai rfl rfl (ad (aj (aj (ah (ai rfl rfl (ad (aY ?_)))))));refine dr (σ:=Nat×Value) (fun q=>[(3,u1),(5,q.2),(6,r2),(7,.int .i64 (q.1:Int))]) (fun q w=>∃M',Lt M' w∧Step M w0 M' w aA∧Own (RT.int .i64) 3 M' w w0.heap.size q.2 (oX ((ec d.2 t.1).take q.1) t.2)∧(RT.str.sl).V M' w (ec d.2 t.1) r2∧cp RT.fd M' w u1 t∧q.1≤(ec d.2 t.1).length) (fun q=>(ec d.2 t.1).length-q.1) (0,.slice none 0 0) (.cons rfl (.cons rfl (.cons rfl (.cons rfl .nil)))) ?_ ?_
 ·exact⟨M,hM,S,dK _ _ _ _ _,uC,ry,bB _⟩
 ·clear S cv ry uC hM;rintro⟨i,u⟩ w ⟨M1,hM,S,ho,uC,ry,hi⟩;dsimp only at ho hi ⊢;refine aj (aj (ah (ae rfl rfl (ae rfl rfl (bM a8 rfl uC rfl (b4 rfl rfl rfl (ad ?_)))))));refine bH rfl (fun c4=>?_) (fun c4=>?_)
  ·refine aS (aj (aY (aj ?_)));apply T.j7 mixed rfl rfl;intro wD6 sA6;have Lh:=sA6 M1;replace uC:=uC.le Lh.le;replace ry:=ry.le (by decide) Lh.le;replace ho:=ho.bh Lh;replace hM:=Lh.lt hM;have:=S.size;replace S:=S.ax Lh;refine ae rfl rfl ?_;refine ad ⟨rfl,rfl,rfl,?_⟩;refine ae rfl rfl ?_;refine ad ⟨rfl,rfl,rfl,?_⟩;obtain⟨y,kZ⟩:∃y,(ec d.2 t.1)[i]? =some y:=⟨_,aD (by omega)⟩;refine cK (M:=M1) a8 I9 rfl rfl rfl uC (ao _ _) (by omega) (fun u62 y' kA ZU=>?_);rw[aw]at kA;obtain rfl:=bp (kZ.symm.trans kA);refine ad ⟨rfl,rfl,rfl,?_⟩;refine bY (M:=M1) aC rfl rfl rfl rfl rfl ZU (ao _ _) (fun v63 ZV=>?_);obtain rfl:=eD ZV;refine ad ⟨rfl,rfl,rfl,?_⟩;refine aF (M:=M1) (A:=RT.fd) (B:=RT.str) bR rfl rfl I9 (by decide) O0 rfl rfl (by decide) ry (ao _ _) (fun u64 ZW=>?_);refine ad ⟨rfl,rfl,rfl,?_⟩;refine bY (M:=M1) aC rfl rfl rfl rfl rfl ZW (ao _ _) (fun v65 ZX=>?_);obtain rfl:=eD ZX;refine ad ⟨rfl,rfl,rfl,?_⟩;refine Rg.vG rfl rfl rfl ?_;refine ad ⟨rfl,rfl,rfl,?_⟩;refine fa ?_;refine bH rfl (fun c6=>?_) (fun c6=>?_)
   ·refine ah (ae rfl rfl (ae rfl rfl ?_));refine eh (A:=RT.int .i64) (hn:=by decide) (M:=M1) au I3 (by decide) rfl rfl hM (fW (by omega)) (.inr ⟨rfl,rfl⟩) (fun Rt Xb oy qy=>?_);replace uC:=uC.le qy.le;replace ry:=ry.le (by decide) qy.le;replace ho:=ho.bh qy;replace hM:=qy.lt hM;have:=S.size;replace S:=S.ax qy;refine cR (M:=M1) (base:=w0.heap.size) au I3 rfl rfl rfl rfl ho oy (ao _ _) (by have:=uk ((ec d.2 t.1).take i) t.2;rw[bG]at this;simp;omega) (by have:=uk ((ec d.2 t.1).take i) t.2;rw[bG]at this;simp;omega) (S.size) (fun QU ZY ahg Td HK=>?_);replace uC:=uC.le HK.le;replace ry:=ry.le (by decide) HK.le;replace oy:=oy.le HK.le;replace hM:=HK.lt hM;have:=S.size;replace S:=S.dd HK ho (a7 _);replace ho:=Td;refine ai rfl rfl (ad (ah (ae rfl rfl (bu rfl rfl rfl (by omega) (ai rfl rfl (ad ?_))))));refine⟨rfl,(i+1,QU),(.cons rfl (.cons rfl (.cons rfl (.cons rfl .nil)))),?_,?_⟩
    ·exact⟨ZY,hM,S,by dsimp only;rw[wY kZ,if_pos c6];exact ho,uC,ry,by dsimp only;omega⟩
    ·dsimp only;omega
   ·refine aS (ah (ae rfl rfl (bu rfl rfl rfl (by omega) (ai rfl rfl (ad ?_)))));refine⟨rfl,(i+1,u),(.cons rfl (.cons rfl (.cons rfl (.cons rfl .nil)))),?_,?_⟩
    ·exact⟨M1,hM,S,by dsimp only;rw[wY kZ,if_neg c6];exact ho,uC,ry,by dsimp only;omega⟩
    ·dsimp only;omega
  ·refine cG (aj (ah (ae rfl rfl (ai rfl rfl (ad (aL ?_))))));rw[aW (by omega)]at ho;exact aO rfl rfl ⟨ho.close iL S (by have:=uk (ec d.2 t.1) t.2;omega),S.back⟩
end Go.K
namespace Go.K
variable {P:Program} {r:Option Nat} {n:Nat} {L:Sl} {ds:List Deferred} {w:World} {K:Kt} {ops:Array Oper} {rest:List Oper} {d:Nat} {x y:Operand} {ty:TypeId} {pos:String} {af:Array Edge} {α:Type} {A:RT α}
def J7 {α:Type} (A:RT α):Prop:=∀(M M':aB) (w w':World) (x:α) (vs:List Value),A.R M w x vs→A.R M' w' x vs
theorem eA.Te {M M':aB} {w w':World} (hA:J7 A):∀{xs:List α} {C:List Value},eA A M w xs C→eA A M' w' xs C
 |[],_,h=>h
 |_::_,_,⟨vs,rest,h1,h2,h3⟩=>⟨vs,rest,h1,hA _ _ _ _ _ _ h2,eA.Te hA h3⟩
theorem Own.Tf {e:TypeId} {M M2:aB} {w':World} {base:Nat} {v:Value} {xs:List α} (hA:J7 A) (h:Own A e M2 w' base v xs) (s:Step M w M2 w' aA) (hb:w.heap.size≤base) (M1:aB):Own A e (jA M1 v) w' base v xs∧Step M1 w (jA M1 v) w' aA:=by
 have Ev:=h.base;obtain⟨⟨C,hr,ha⟩,hm⟩:=h;refine⟨⟨⟨C,hr,ha.Te hA⟩,fun b hb=> .inl hb⟩,fun hl b yy=>?_,s.os,s.tape,s.output,s.size,fun b yy=>⟨fun h=>h.resolve_left fun e=>by have:=(Ev b e).1;omega,.inr⟩,s.same,fun b h=>h.elim⟩;rcases yy with h|h
 ·exact(Ev b h).2
 ·exact nf (hl b h) s.size
theorem Own.OD {hn:0<A.n} {e:TypeId} {M M1 M2:aB} {w':World} {base:Nat} {v:Value} {xs:List α} (hA:J7 A) (h:Own A e M2 w' base v xs) (s:Step M w M2 w' aA) (hb:w.heap.size≤base) (hM:Lt M1 w) (hlen:xs.length≤140737488355328):(A.sl hn).V M1 w' xs v∧Step M1 w M1 w' aA:=by
 have Ev:=h.base;obtain⟨h1,h2⟩:=h.Tf hA s hb M1;exact⟨h1.sl (fun b _ KX=>⟨fun h=>KX (.inr h),rfl⟩) (fun b rC hM'=>by have h3:=(Ev b rC).1;have h4:=hM b hM';omega) hlen,s.any M1⟩
end Go.K
namespace Go.K
open Go.Proofs
namespace TKQueA
theorem wU:TI Tryz.prog 51 (.agg #[(.string ⟨#[]⟩),(.string ⟨#[]⟩),(.int .i64 0)]) 3 40:=by unfold TI;kernel_rfl
end TKQueA
open TKQueA
set_option maxRecDepth 10000
end Go.K
namespace Go.K
open Go.Proofs
namespace TKQueC
theorem Cf:TI Tryz.prog 49 (.agg #[(.string ⟨#[]⟩),(.string ⟨#[]⟩),(.int .i64 0)]) 3 40:=by unfold TI;kernel_rfl
theorem wU:TI Tryz.prog 51 (.agg #[(.string ⟨#[]⟩),(.string ⟨#[]⟩),(.int .i64 0)]) 3 40:=by unfold TI;kernel_rfl
theorem B49:placesOf Tryz.prog 49=[(0,2),(2,1)].map some:=by kernel_rfl
end TKQueC
open TKQueC
set_option maxRecDepth 10000
theorem wZ {M:aB} {l:List Er} {v0:Value} (w0:World) (hM:Lt M w0) (hv:(RT.er.sl).V M w0 l v0) (hl:l.length≤1000000):
  Spec Tryz.prog 38 #[v0] w0 (fun v w=>(RT.er.sl).V M w (l) v∧Step M w0 M w aA):=by
 have iL:=hM;refine aZ (args:=[_]) (fn:=Tryz.f38) Tryz.func38 rfl (n:=26) Tryz.ntmps38 ?_;have S:Step M w0 M w0 aA:=(an _ _).ca (fun _ h=>h.elim) (fun _ h=>h.elim);refine aj (ah (ai rfl rfl (ad (aj (ah (ai rfl rfl (ad (aj (aj (ah (ai rfl rfl ?_)))))))))));refine ad (aY ?_);refine dr (σ:=Nat×Value) (fun q=>[(0,v0),(3,q.2),(4,.int .i64 (q.1:Int))]) (fun q w=>∃M',Lt M' w∧Step M w0 M' w aA∧Own RT.er 49 M' w w0.heap.size q.2 (l.take q.1)∧(RT.er.sl).V M' w l v0∧q.1≤l.length) (fun q=>l.length-q.1) (0,.slice none 0 0) (.cons rfl (.cons rfl (.cons rfl .nil))) ?_ ?_
 ·exact⟨M,hM,S,dK _ _ _ _ _,hv,bB _⟩
 ·rintro⟨i,u⟩ w ⟨M1,hM,S,ho,hv,hi⟩;dsimp only at ho hi ⊢;refine aj (aj (ah (ae rfl rfl (ae rfl rfl (bM iP rfl hv rfl (b4 rfl rfl rfl (ad ?_)))))));refine bH rfl (fun c3=>?_) (fun c3=>?_)
  ·refine aS (aj (aY ?_));apply T.ni 12 [0] 1 aA mixed rfl rfl rfl rfl;intro O6 RE;have yg:=RE M1;replace hv:=hv.le yg.le;replace ho:=ho.bh yg;replace hM:=yg.lt hM;have:=S.size;replace S:=S.ax yg;refine ae rfl rfl ?_;refine ad ⟨rfl,rfl,rfl,?_⟩;refine ae rfl rfl ?_;refine ad ⟨rfl,rfl,rfl,?_⟩;refine ae rfl rfl ?_;refine ad ⟨rfl,rfl,rfl,?_⟩;obtain⟨e,kZ⟩:∃e,l[i]? =some e:=⟨_,aD (by omega)⟩;refine cK (M:=M1) iP wU rfl rfl rfl hv (ao _ _) (by omega) (fun u3 e3 kA O4=>?_);rw[aw]at kA;obtain rfl:=bp (kZ.symm.trans kA);refine ad ⟨rfl,rfl,rfl,?_⟩;refine aF (M:=M1) (A:=RT.er) (B:=RT.fd) fE rfl rfl o4 (by decide) Un rfl rfl (by decide) O4 (ao _ _) (fun u4 vY=>?_);refine ad ⟨rfl,rfl,rfl,?_⟩;refine b5 (M:=M1) (A:=RT.fd) bR rfl o4 (by decide) rfl rfl rfl vY (ao _ _) (fun vt B6=>?_);have so:=xT B6;obtain rfl:=kh B6;refine ad ⟨rfl,rfl,rfl,?_⟩;refine ae rfl rfl ?_;refine ad ⟨rfl,rfl,rfl,?_⟩;refine ae rfl rfl ?_;refine ad ⟨rfl,rfl,rfl,?_⟩;refine cK (M:=M1) iP wU rfl rfl rfl hv (ao _ _) (by omega) (fun u8 e8 kA Su=>?_);rw[aw]at kA;obtain rfl:=bp (kZ.symm.trans kA);refine ad ⟨rfl,rfl,rfl,?_⟩;refine aF (M:=M1) (A:=RT.er) (B:=RT.int .i64) fE rfl rfl I3 (by decide) Pm rfl rfl (by decide) Su (ao _ _) (fun u9 Jg=>?_);refine ad ⟨rfl,rfl,rfl,?_⟩;refine bV (M:=M1) ar rfl rfl Jg (ao _ _) (fun Uu=>?_);refine ad ⟨rfl,rfl,rfl,?_⟩;refine dU (places:=[(0,2),(2,1)]) iQ Cf B49 rfl ⟨_,_,rfl,rfl,_,_,rfl,rfl,rfl⟩ (out:=[_,_,_]) ⟨0,[_,_],rfl,rfl,by simp[Value.cells],2,[_],rfl,rfl,by simp[Value.cells],rfl⟩ ?_;refine ad ⟨rfl,rfl,rfl,?_⟩;refine fa ?_;refine⟨iM ⟨jy,trivial⟩,?_⟩;have kp:=kG aA O6
   refine eh (A:=RT.er) (hn:=by decide) (M:=M1) iR Cf (by decide) rfl rfl hM (HA (p:=e) so Uu) (.inl rfl) (fun KU KV ko kq=>?_);replace hv:=hv.le kq.le;replace ho:=ho.bh kq;replace hM:=kq.lt hM;have:=S.size;replace S:=S.ax kq;refine(fun(kp:eB _ _ _)=>ad ⟨rfl,rfl,fun _=>kp,?_⟩) (by first|exact kp|exact kp.rA (by assumption)|exact kp.goN (by assumption)|exact kp.go (by assumption) (fun _ _ h=>by first|exact h|exact h.elim));refine cR (M:=M1) (base:=w0.heap.size) iR Cf rfl rfl rfl rfl ho ko (ao _ _) (by simp;omega) (by simp;omega) (S.size) (fun zC zD KW tF kr=>?_);replace hv:=hv.le kr.le;replace ko:=ko.le kr.le;replace hM:=kr.lt hM;have:=S.size;replace S:=S.dd kr ho (a7 _);replace ho:=tF;refine ad ⟨rfl,rfl,fun h=>absurd rfl h,?_⟩;refine ai rfl rfl ?_;refine ad ⟨rfl,rfl,fun h=>absurd rfl h,?_⟩;refine qG (ah (ae rfl rfl (bu rfl rfl rfl (by omega) (ai rfl rfl (ad ?_)))));refine⟨rfl,(i+1,zC),(.cons rfl (.cons rfl (.cons rfl .nil))),?_,?_⟩
   ·exact⟨zD,hM,S,by dsimp only;rw[bN,kZ];exact ho,hv,by dsimp only;omega⟩
   ·dsimp only;omega
  ·refine cG (aj (ah (ae rfl rfl (ai rfl rfl (ad (aL ?_))))));rw[aW (by omega)]at ho;exact aO rfl rfl ⟨ho.close iL S (by first|omega|(simp;omega)),S.back⟩
end Go.K
namespace Go.K
open Go.Proofs
namespace TKTak15
theorem I4:TI Tryz.prog 4 (.bool false) 1 1:=by unfold TI;kernel_rfl
theorem Cf:TI Tryz.prog 49 (.agg #[(.string ⟨#[]⟩),(.string ⟨#[]⟩),(.int .i64 0)]) 3 40:=by unfold TI;kernel_rfl
theorem wU:TI Tryz.prog 51 (.agg #[(.string ⟨#[]⟩),(.string ⟨#[]⟩),(.int .i64 0)]) 3 40:=by unfold TI;kernel_rfl
theorem Ur:placesOf Tryz.prog 51=[(0,2),(2,1)].map some:=by kernel_rfl
theorem ZZ:Enters Tryz.prog 104:=enters Tryz.func104 rfl (by decide)
end TKTak15
open TKTak15
set_option maxRecDepth 10000
def nP (e:Er) (x:En):Bool:=decide (x.2<e.2)&&decide (0<(oX (ec x.1.2 e.1.1) e.1.2).length)
theorem pV {M:aB} {e:Er} {x:En} {v0 v1:Value} (w0:World) (hM:Lt M w0) (he:RT.er.V M w0 e v0) (hx:RT.en.V M w0 x v1) (hlen:∀f∈x.1.2,f.1.length≤900000∧f.2.length≤900000) (C9:x.1.2.length≤1000000):
  Spec Tryz.prog 54 #[v0,v1] w0 (fun v w=>v= .bool (nP e x)∧Step M w0 M w aA):=by
 refine aZ (args:=[_,_]) (fn:=Tryz.f54) Tryz.func54 rfl (n:=19) Tryz.ntmps54 ?_;have S:Step M w0 M w0 aA:=(an _ _).ca (fun _ h=>h.elim) (fun _ h=>h.elim);refine aj (ah ?_);refine gx (A:=RT.er) (a:=e) rfl rfl hM he rfl (fun u0 w1 cv s0 _=>?_);replace he:=he.le s0.le;replace hx:=hx.le s0.le;replace hM:=s0.lt hM;have:=S.size;replace S:=S.ax s0;refine gx (A:=RT.en) (a:=x) rfl rfl hM hx rfl (fun u1 w2 ry s1 _=>?_);replace hx:=hx.le s1.le;replace cv:=cv.le (by decide) s1.le;replace hM:=s1.lt hM;have:=S.size;replace S:=S.ax s1;refine ai rfl rfl (ad (aj (ah ?_)));refine aF (M:=M) (A:=RT.en) (B:=RT.int .i64) cn rfl rfl I3 (by decide) O2 rfl rfl (by decide) ry (ao _ _) (fun QR Jd=>?_);refine bV (M:=M) ar rfl rfl Jd (ao _ _) (fun Uv=>?_);refine bz (v':= .int .i64 x.2) rfl ?_;refine aF (M:=M) (A:=RT.er) (B:=RT.int .i64) iQ rfl rfl I3 (by decide) Pm rfl rfl (by decide) cv (ao _ _) (fun u12 Z0=>?_);refine bV (M:=M) ar rfl rfl Z0 (ao _ _) (fun Uw=>?_);refine bz (v':= .int .i64 e.2) rfl (b4 rfl rfl rfl (ae rfl rfl ?_));refine aJ (g:=10) rfl (fun l9=>?_) (fun l9=>?_)
 ·refine al rfl rfl ?_;refine aF (M:=M) (A:=RT.en) (B:=RT.dc) cn rfl rfl kE (by decide) O1 rfl rfl (by decide) ry (ao _ _) (fun u16 Z1=>?_);refine al rfl rfl ?_;refine b5 (M:=M) (A:=RT.dc) aK rfl kE (by decide) rfl rfl rfl Z1 (ao _ _) (fun v17 Z2=>?_);refine al rfl rfl ?_;refine aF (M:=M) (A:=RT.er) (B:=RT.fd) iQ rfl rfl o4 (by decide) Un rfl rfl (by decide) cv (ao _ _) (fun u18 Nw=>?_);refine al rfl rfl ?_;refine b5 (M:=M) (A:=RT.fd) bR rfl o4 (by decide) rfl rfl rfl Nw (ao _ _) (fun v19 JJ=>?_);refine al rfl rfl ?_;refine aQ rfl rfl ZZ (AL _ hM Z2 hlen C9 JJ) (fun r10 Wu hc=>?_);obtain⟨Z3,p8⟩:=hc;replace cv:=cv.le (by decide) p8.le;replace ry:=ry.le (by decide) p8.le;replace hM:=p8.lt hM;have:=S.size;replace S:=S.ax p8;refine al rfl rfl (bM au rfl Z3 rfl (al rfl rfl (mL rfl rfl rfl (aR rfl rfl rfl (ai rfl rfl (ad (aL ?_)))))))
  first
  |exact aO rfl rfl ⟨congrArg Value.bool (by unfold nP;rw[decide_eq_true l9,cZ];exact decide_eq_decide.2 (by omega)),S⟩
  |exact aO rfl rfl ⟨congrArg Value.bool (by unfold nP;rw[decide_eq_false l9,eH]),S⟩
 ·refine aq rfl rfl rfl rfl (aq rfl rfl rfl rfl (aq rfl rfl rfl rfl (aq rfl rfl rfl rfl (aq rfl rfl rfl rfl (aq rfl rfl rfl rfl (aq rfl rfl rfl rfl (az rfl rfl rfl (ai rfl rfl (ad (aL ?_))))))))))
  first
  |exact aO rfl rfl ⟨congrArg Value.bool (by unfold nP;rw[decide_eq_true l9,cZ];exact decide_eq_decide.2 (by omega)),S⟩
  |exact aO rfl rfl ⟨congrArg Value.bool (by unfold nP;rw[decide_eq_false l9,eH]),S⟩
def gL (l:List Bool):List Int:=(l.zipIdx.filter fun p=>p.1).map fun p=>(p.2:Int)
theorem my {l:List Bool} {b:Bool} {i:Nat} (h:l[i]? =some b):gL (l.take (i+1))=if b=true then gL (l.take i)++[(i:Int)]else gL (l.take i):=by
 have hi:=(av.1 h).1;unfold gL;rw[bN,h,ck,List.zipIdx_append,List.filter_append,eL];simp only[bG,rT (Nat.le_of_lt hi),Nat.zero_add,qa,List.zipIdx_nil]
 cases b<;>simp
theorem jU (l:List Bool):(gL l).length≤l.length:=by
 unfold gL;rw[ch];exact eK (List.length_filter_le _ _) (by simp)
theorem Cg {M:aB} {l:List Bool} {v0:Value} (w0:World) (hM:Lt M w0) (hv:(RT.bool.sl).V M w0 l v0) (hl:l.length≤1000000):
  Spec Tryz.prog 53 #[v0] w0 (fun v w=>((RT.int .i64).sl).V M w (gL l) v∧Step M w0 M w aA):=by
 have iL:=hM;refine aZ (args:=[_]) (fn:=Tryz.f53) Tryz.func53 rfl (n:=20) Tryz.ntmps53 ?_;have S:Step M w0 M w0 aA:=(an _ _).ca (fun _ h=>h.elim) (fun _ h=>h.elim);refine aj (ah (ai rfl rfl (ad (aj (ah (ai rfl rfl (ad (aj (aj (ah (ai rfl rfl ?_)))))))))));refine ad (aY ?_);refine dr (σ:=Nat×Value) (fun q=>[(0,v0),(3,q.2),(4,.int .i64 (q.1:Int))]) (fun q w=>∃M',Lt M' w∧Step M w0 M' w aA∧Own (RT.int .i64) 3 M' w w0.heap.size q.2 (gL (l.take q.1))∧(RT.bool.sl).V M' w l v0∧q.1≤l.length) (fun q=>l.length-q.1) (0,.slice none 0 0) (.cons rfl (.cons rfl (.cons rfl .nil))) ?_ ?_
 ·exact⟨M,hM,S,dK _ _ _ _ _,hv,bB _⟩
 ·clear S hv hM;rintro⟨i,u⟩ w ⟨M1,hM,S,ho,hv,hi⟩;dsimp only at ho hi ⊢;refine aj (aj (ah (ae rfl rfl (ae rfl rfl (bM Tryz.underlying22 rfl hv rfl (b4 rfl rfl rfl (ad ?_)))))));refine bH rfl (fun c3=>?_) (fun c3=>?_)
  ·refine aS (aj (aY (aj (ah (ae rfl rfl (ae rfl rfl ?_))))));obtain⟨b,kZ⟩:∃b,l[i]? =some b:=⟨_,aD (by omega)⟩;refine cK (M:=M1) Tryz.underlying22 I4 rfl rfl rfl hv (ao _ _) (by omega) (fun u52 b' kA Z4=>?_);rw[aw]at kA;obtain rfl:=bp (kZ.symm.trans kA);refine bY (M:=M1) gX rfl rfl rfl rfl rfl Z4 (ao _ _) (fun v53 Z5=>?_);obtain rfl:v53= .bool b:=by obtain⟨vs,h1,rfl⟩:=Z5;have h1:vs=[.bool b]:=h1;subst h1;rfl
   refine bz (v':= .bool (decide (b=true))) (by simp) (ad ?_);refine bH rfl (fun c5=>?_) (fun c5=>?_)
   ·refine ah (ae rfl rfl (ae rfl rfl ?_));refine eh (A:=RT.int .i64) (hn:=by decide) (M:=M1) au I3 (by decide) rfl rfl hM (fW (by omega)) (.inr ⟨rfl,rfl⟩) (fun I8 ahj tU J8=>?_);replace hv:=hv.le J8.le;replace ho:=ho.bh J8;replace hM:=J8.lt hM;have:=S.size;replace S:=S.ax J8;refine cR (M:=M1) (base:=w0.heap.size) au I3 rfl rfl rfl rfl ho tU (ao _ _) (by have:=jU (l.take i);rw[bG]at this;simp;omega) (by have:=jU (l.take i);rw[bG]at this;simp;omega) (S.size) (fun Z6 Z7 QO Tg uR=>?_);replace hv:=hv.le uR.le;replace tU:=tU.le uR.le;replace hM:=uR.lt hM;have:=S.size;replace S:=S.dd uR ho (a7 _);replace ho:=Tg;refine ai rfl rfl (ad (ah (ae rfl rfl (bu rfl rfl rfl (by omega) (ai rfl rfl (ad ?_))))));refine⟨rfl,(i+1,Z6),(.cons rfl (.cons rfl (.cons rfl .nil))),?_,?_⟩
    ·exact⟨Z7,hM,S,by dsimp only;rw[my kZ,if_pos c5];exact ho,hv,by dsimp only;omega⟩
    ·dsimp only;omega
   ·refine aS (ah (ae rfl rfl (bu rfl rfl rfl (by omega) (ai rfl rfl (ad ?_)))));refine⟨rfl,(i+1,u),(.cons rfl (.cons rfl (.cons rfl .nil))),?_,?_⟩
    ·exact⟨M1,hM,S,by dsimp only;rw[my kZ,if_neg c5];exact ho,hv,by dsimp only;omega⟩
    ·dsimp only;omega
  ·refine cG (aj (ah (ae rfl rfl (ai rfl rfl (ad (aL ?_))))));rw[aW (by omega)]at ho;exact aO rfl rfl ⟨ho.close iL S (by have:=jU l;omega),S.back⟩
theorem Eh {M:aB} {l:List Er} {v0:Value} (w0:World) (hM:Lt M w0) (hv:(RT.er.sl).V M w0 l v0) (hl:l.length≤140737488355328):
  Spec Tryz.prog 47 #[v0] w0 (fun v w=>(RT.er.sl).V M w (l.take 20) v∧Step M w0 M w aA):=by
 have iL:=hM;refine aZ (args:=[_]) (fn:=Tryz.f47) Tryz.func47 rfl (n:=30) Tryz.ntmps47 ?_;have S:Step M w0 M w0 aA:=(an _ _).ca (fun _ h=>h.elim) (fun _ h=>h.elim);refine aj (ah (ai rfl rfl (ad (aj (ah (ai rfl rfl (ad (aj (aj (ah (ai rfl rfl ?_)))))))))));refine ad (aY ?_);refine dr (σ:=Nat×Value) (fun q=>[(0,v0),(3,q.2),(4,.int .i64 (q.1:Int))]) (fun q w=>∃M',Lt M' w∧Step M w0 M' w aA∧Own RT.er 51 M' w w0.heap.size q.2 (l.take q.1)∧(RT.er.sl).V M' w l v0∧q.1≤min 20 l.length) (fun q=>l.length-q.1) (0,.slice none 0 0) (.cons rfl (.cons rfl (.cons rfl .nil))) ?_ ?_
 ·exact⟨M,hM,S,dK _ _ _ _ _,hv,bB _⟩
 ·rintro⟨i,u⟩ w ⟨M1,hM,S,ho,hv,hi⟩;dsimp only at ho hi ⊢;refine aj (aj (ah (ae rfl rfl (ae rfl rfl (bM iR rfl hv rfl (b4 rfl rfl rfl (ae rfl rfl ?_)))))));refine aJ (g:=9) rfl (fun M8=>?_) (fun M8=>?_)
  ·refine al rfl rfl (ae rfl rfl (al rfl rfl (b4 rfl rfl rfl (aR rfl rfl rfl (ad ?_)))));refine bH rfl (fun c3=>?_) (fun c3=>?_)
   ·refine aS (aj (aY ?_));apply T.ni 12 [0] 1 aA mixed rfl rfl rfl rfl;intro O6 RE;have yg:=RE M1;replace hv:=hv.le yg.le;replace ho:=ho.bh yg;replace hM:=yg.lt hM;have:=S.size;replace S:=S.ax yg;refine ae rfl rfl ?_;refine ad ⟨rfl,rfl,rfl,?_⟩;refine ae rfl rfl ?_;refine ad ⟨rfl,rfl,rfl,?_⟩;refine ae rfl rfl ?_;refine ad ⟨rfl,rfl,rfl,?_⟩;obtain⟨e,kZ⟩:∃e,l[i]? =some e:=⟨_,aD (by omega)⟩;refine cK (M:=M1) iR Cf rfl rfl rfl hv (ao _ _) (by omega) (fun u3 e3 kA O4=>?_);rw[aw]at kA;obtain rfl:=bp (kZ.symm.trans kA);refine ad ⟨rfl,rfl,rfl,?_⟩;refine aF (M:=M1) (A:=RT.er) (B:=RT.fd) iQ rfl rfl o4 (by decide) Un rfl rfl (by decide) O4 (ao _ _) (fun u4 vY=>?_);refine ad ⟨rfl,rfl,rfl,?_⟩;refine b5 (M:=M1) (A:=RT.fd) bR rfl o4 (by decide) rfl rfl rfl vY (ao _ _) (fun vt B6=>?_);have so:=xT B6;obtain rfl:=kh B6;refine ad ⟨rfl,rfl,rfl,?_⟩;refine ae rfl rfl ?_;refine ad ⟨rfl,rfl,rfl,?_⟩;refine ae rfl rfl ?_;refine ad ⟨rfl,rfl,rfl,?_⟩;refine cK (M:=M1) iR Cf rfl rfl rfl hv (ao _ _) (by omega) (fun u8 e8 kA Su=>?_);rw[aw]at kA;obtain rfl:=bp (kZ.symm.trans kA);refine ad ⟨rfl,rfl,rfl,?_⟩;refine aF (M:=M1) (A:=RT.er) (B:=RT.int .i64) iQ rfl rfl I3 (by decide) Pm rfl rfl (by decide) Su (ao _ _) (fun u9 Jg=>?_);refine ad ⟨rfl,rfl,rfl,?_⟩;refine bV (M:=M1) ar rfl rfl Jg (ao _ _) (fun Uu=>?_);refine ad ⟨rfl,rfl,rfl,?_⟩;refine dU (places:=[(0,2),(2,1)]) fE wU Ur rfl ⟨_,_,rfl,rfl,_,_,rfl,rfl,rfl⟩ (out:=[_,_,_]) ⟨0,[_,_],rfl,rfl,by simp[Value.cells],2,[_],rfl,rfl,by simp[Value.cells],rfl⟩ ?_;refine ad ⟨rfl,rfl,rfl,?_⟩;refine fa ?_;refine⟨iM ⟨jy,trivial⟩,?_⟩;have kp:=kG aA O6
    refine eh (A:=RT.er) (hn:=by decide) (M:=M1) iP wU (by decide) rfl rfl hM (HA (p:=e) so Uu) (.inl rfl) (fun KU KV ko kq=>?_);replace hv:=hv.le kq.le;replace ho:=ho.bh kq;replace hM:=kq.lt hM;have:=S.size;replace S:=S.ax kq;refine(fun(kp:eB _ _ _)=>ad ⟨rfl,rfl,fun _=>kp,?_⟩) (by first|exact kp|exact kp.rA (by assumption)|exact kp.goN (by assumption)|exact kp.go (by assumption) (fun _ _ h=>by first|exact h|exact h.elim));refine cR (M:=M1) (base:=w0.heap.size) iP wU rfl rfl rfl rfl ho ko (ao _ _) (by simp;omega) (by simp;omega) (S.size) (fun zC zD KW tF kr=>?_);replace hv:=hv.le kr.le;replace ko:=ko.le kr.le;replace hM:=kr.lt hM;have:=S.size;replace S:=S.dd kr ho (a7 _);replace ho:=tF;refine ad ⟨rfl,rfl,fun h=>absurd rfl h,?_⟩;refine ai rfl rfl ?_;refine ad ⟨rfl,rfl,fun h=>absurd rfl h,?_⟩;refine qG (ah (ae rfl rfl (bu rfl rfl rfl (by omega) (ai rfl rfl (ad ?_)))));refine⟨rfl,(i+1,zC),(.cons rfl (.cons rfl (.cons rfl .nil))),?_,?_⟩
    ·exact⟨zD,hM,S,by dsimp only;rw[bN,kZ];exact ho,hv,by dsimp only;omega⟩
    ·dsimp only;omega
   ·refine cG (aj (ah (ae rfl rfl (ai rfl rfl (ad (aL ?_))))))
    rw[show l.take 20=l.take i from by
     rcases cU i 20 with h|h
     ·rw[aW (by omega),aW (by omega)]
     ·rw[show i=20 by omega]]
    exact aO rfl rfl ⟨ho.close iL S (by first|omega|(simp;omega)),S.back⟩
  ·refine aq rfl rfl rfl rfl (aq rfl rfl rfl rfl (az rfl rfl rfl (ad (gG rfl (cG (aj (ah (ae rfl rfl (ai rfl rfl (ad (aL ?_)))))))))))
   rw[show l.take 20=l.take i from by
    rcases cU i 20 with h|h
    ·rw[aW (by omega),aW (by omega)]
    ·rw[show i=20 by omega]]
   exact aO rfl rfl ⟨ho.close iL S (by first|omega|(simp;omega)),S.back⟩
end Go.K
namespace Go.K
open Go.Proofs
namespace TKLive15
theorem I4:TI Tryz.prog 4 (.bool false) 1 1:=by unfold TI;kernel_rfl
theorem Cf:TI Tryz.prog 49 (.agg #[(.string ⟨#[]⟩),(.string ⟨#[]⟩),(.int .i64 0)]) 3 40:=by unfold TI;kernel_rfl
theorem Z8:Enters Tryz.prog 54:=enters Tryz.func54 rfl (by decide)
end TKLive15
open TKLive15
set_option maxRecDepth 10000
def kB (l:List Bool):Array Value:=(l.map Value.bool).toArray
theorem um {l:List Bool} {i:Nat} (h:i<l.length):∃b,(kB l)[i]? =some (.bool b):=by
 unfold kB;exact⟨l[i],by rw[fJ,cy,aD h];rfl⟩
theorem uq (l:List Bool) (i:Nat) (b:Bool):(kB l).setIfInBounds i (.bool b)=kB (l.set i b):=by
 unfold kB;simp[List.map_set]
theorem J9 {M:aB} {w:World} {b:Nat} {e:TypeId} {l:List Bool} (h:w.heap[b]? =some (.cells (kB l) e (0,0))) (hb: ¬M b) (hl:l.length≤140737488355328):(RT.bool.sl).V M w l (.slice (some ⟨b,0,none⟩) l.length l.length):=
 gY.2 ⟨_,_,rfl,a7 _,hl,.inr ⟨b,0,rfl,hb,fun i x hx=>⟨[.bool x],rfl,fun j v hj=>by
  cases j with
  |zero=>
   simp at hj;subst hj;refine gH h ?_;show(kB l)[0+i*1+0]? =_;unfold kB;rw[fJ,cy,show 0+i*1+0=i by omega,hx];rfl
  |succ j=>simp at hj⟩⟩⟩
def iJ (es:List Er) (upto:Int) (x:En):Bool:=decide (x.2<upto)&& !(es.any fun e=>decide (e.2<upto)&&nP e x)
theorem oY {es:List Er} {upto:Int} {x:En} {e:Er}:iJ (es++[e]) upto x=(iJ es upto x&& !(decide (e.2<upto)&&nP e x)):=by
 unfold iJ;rw[List.any_append];simp only[List.any_cons,List.any_nil,Bool.or_false,Bool.not_or,Bool.and_assoc]
def rG (L:List En) (es:List Er) (upto:Int) (i:Nat):List Bool:=(L.take i).map (iJ es upto)++List.replicate (L.length-i) false
theorem AM {L:List En} {es:List Er} {upto:Int} {i:Nat} (h:i≤L.length):(rG L es upto i).length=L.length:=by unfold rG;simp;omega
theorem HL {L:List En} {es:List Er} {upto:Int} {i:Nat} {x:En} (h:L[i]? =some x):(rG L es upto i).set i (iJ es upto x)=rG L es upto (i+1):=by
 have hi:=(av.1 h).1;unfold rG;rw[List.set_append_right _ _ (by simp;omega),bN,h,ck,eL,List.append_assoc];congr 1;rw[show L.length-i=(L.length-(i+1))+1 by omega,List.replicate_succ];simp[rT (Nat.le_of_lt hi)]
theorem AN {M:aB} {L:List En} {es:List Er} {upto:Int} {v0 v1:Value} (w0:World) (hM:Lt M w0) (hv:(RT.en.sl).V M w0 L v0) (he:(RT.er.sl).V M w0 es v1) (hlen:∀x∈L,(∀f∈x.1.2,f.1.length≤900000∧f.2.length≤900000)∧x.1.2.length≤1000000) (hL:L.length≤1000000) (so:es.length≤1000000):
  Spec Tryz.prog 49 #[v0,v1,.int .i64 upto] w0 (fun v w=>(RT.bool.sl).V M w (L.map (iJ es upto)) v∧Step M w0 M w aA):=by
 have iL:=hM;refine aZ (args:=[_,_,_]) (fn:=Tryz.f49) Tryz.func49 rfl (n:=59) Tryz.ntmps49 ?_;have S:Step M w0 M w0 aA:=(an _ _).ca (fun _ h=>h.elim) (fun _ h=>h.elim);refine aj (ah (ai rfl rfl (ad (aj (ah (ae rfl rfl (bM dp rfl hv rfl ?_)))))));refine Rg.mk0 M Tryz.underlying22 I4 rfl rfl rfl rfl (by omega) (by omega) (fun bw w1 z1 UG AO s1=>?_);generalize hMq:ins M bw=Mq at s1;have rH:Mq bw:=by rw[←hMq];exact .inl rfl
 replace hv:=hv.le s1.le;replace he:=he.le s1.le;replace hM:=s1.lt hM;have:=S.size;replace S:=S.ax s1;refine ai rfl rfl (ad (aj (aj (ah (ai rfl rfl (ad (aY ?_)))))));refine dr (σ:=Nat) (fun i=>[(0,v0),(1,v1),(2,.int .i64 upto),(7,.slice (some ⟨bw,0,none⟩) L.length L.length),(8,.int .i64 (i:Int))]) (fun i w=>∃M1,Lt M1 w∧Step M w0 M1 w aA∧(RT.en.sl).V M1 w L v0∧(RT.er.sl).V M1 w es v1∧M1 bw∧w.heap[bw]? =some (.cells (kB (rG L es upto i)) 4 (0,0))∧i≤L.length) (fun i=>L.length-i) 0 (.cons rfl (.cons rfl (.cons rfl (.cons rfl (.cons rfl .nil))))) ?_ ?_
 ·exact⟨_,hM,S,hv,he,rH,by rw[AO];unfold rG kB;simp,bB _⟩
 ·clear S hv he hM AO rH;rintro i w ⟨M1,hM,S,hv,he,rH,AO,hi⟩;refine aj (aj (ah (ae rfl rfl (ae rfl rfl (bM dp rfl hv rfl (b4 rfl rfl rfl (ad ?_)))))));refine bH rfl (fun c3=>?_) (fun c3=>?_)
  ·refine aS (aj (aY (aj (ah (ae rfl rfl (ae rfl rfl (ae rfl rfl (ae rfl rfl ?_))))))));obtain⟨x,kZ⟩:∃x,L[i]? =some x:=⟨_,aD (by omega)⟩;refine cK (M:=M1) dp uD rfl rfl rfl hv (ao _ _) (by omega) (fun u54 y' kA OC=>?_);rw[aw]at kA;obtain rfl:=bp (kZ.symm.trans kA);refine aF (M:=M1) (A:=RT.en) (B:=RT.int .i64) cn rfl rfl I3 (by decide) O2 rfl rfl (by decide) OC (ao _ _) (fun u55 Z9=>?_);refine bV (M:=M1) ar rfl rfl Z9 (ao _ _) (fun Ux=>?_);refine bz (v':= .int .i64 x.2) rfl (ae rfl rfl (b4 rfl rfl rfl (Rg.uM Tryz.underlying22 I4 rfl rfl rfl (by omega) ?_)));have hrl:=AM (es:=es) (upto:=upto) hi;obtain⟨bo,NX⟩:=um (l:=rG L es upto i) (i:=i) (by omega);refine bS (M:=M1) (u:= .bool bo) I4 rfl rfl AO (by rw[aw];exact NX) rfl rH (fun w5 gw5 Uy=>?_);rw[aw,uq]at gw5;replace hv:=hv.le Uy.le;replace he:=he.le Uy.le;replace S:=S.cC Uy (fun b (hb:b=bw)=>by omega);replace hM:=Uy.lt hM;refine ad (aj (ah (ai rfl rfl (ad (aY ?_)))));refine dr (σ:=Nat) (fun k=>[(0,v0),(1,v1),(2,.int .i64 upto),(7,.slice (some ⟨bw,0,none⟩) L.length L.length),(8,.int .i64 (i:Int)),(9,.int .i64 (k:Int))]) (fun k w=>∃M1,Lt M1 w∧Step M w0 M1 w aA∧(RT.en.sl).V M1 w L v0∧(RT.er.sl).V M1 w es v1∧M1 bw∧w.heap[bw]? =some (.cells (kB ((rG L es upto i).set i (iJ (es.take k) upto x))) 4 (0,0))∧k≤es.length) (fun k=>es.length-k) 0 (.cons rfl (.cons rfl (.cons rfl (.cons rfl (.cons rfl (.cons rfl .nil)))))) ?_ ?_
   ·exact⟨_,hM,S,hv,he,rH,by rw[gw5];unfold iJ;simp,bB _⟩
   ·clear S hv he hM AO gw5 rH NX bo;rintro k w ⟨M1,hM,S,hv,he,rH,AO,hk⟩;refine aj (aj (ah (ae rfl rfl (ae rfl rfl (bM iR rfl he rfl (b4 rfl rfl rfl (ad ?_)))))));refine bH rfl (fun c7=>?_) (fun c7=>?_)
    ·refine aS (aj (aY (aj ?_)));apply T.Kv 8 mixed rfl rfl rfl rfl rfl;intro NQ ZA;have wL:=ZA M1;replace hv:=hv.le wL.le;replace he:=he.le wL.le;replace hM:=wL.lt hM;have:=S.size;replace S:=S.ax wL;refine ae rfl rfl ?_;refine ad ⟨rfl,rfl,rfl,?_⟩;refine ae rfl rfl ?_;refine ad ⟨rfl,rfl,rfl,?_⟩;obtain⟨e,Ly⟩:∃e,es[k]? =some e:=⟨_,aD (by omega)⟩;obtain⟨hx1,KZ⟩:=hlen x (aI kZ);refine cK (M:=M1) iR Cf rfl rfl rfl he (ao _ _) (by omega) (fun u92 y' kA aac=>?_);rw[aw]at kA;obtain rfl:=bp (Ly.symm.trans kA);refine ad ⟨rfl,rfl,rfl,?_⟩;refine b5 (M:=M1) (A:=RT.er) iQ rfl Cf (by decide) rfl rfl rfl aac (ao _ _) (fun v93 aad=>?_);refine ad ⟨rfl,rfl,rfl,?_⟩;refine ae rfl rfl ?_;refine ad ⟨rfl,rfl,rfl,?_⟩;refine ae rfl rfl ?_;refine ad ⟨rfl,rfl,rfl,?_⟩;refine cK (M:=M1) dp uD rfl rfl rfl hv (ao _ _) (by omega) (fun u96 y' kA aae=>?_);rw[aw]at kA;obtain rfl:=bp (kZ.symm.trans kA);refine ad ⟨rfl,rfl,rfl,?_⟩;refine b5 (M:=M1) (A:=RT.en) cn rfl uD (by decide) rfl rfl rfl aae (ao _ _) (fun v97 aaf=>?_);refine ad ⟨rfl,rfl,rfl,?_⟩;refine fa ?_;replace AO:=wL.aM AO;refine aQ rfl rfl Z8 (pV _ hM aad aaf hx1 KZ) (fun r98 w98 hc=>?_);obtain⟨rfl,Th⟩:=hc;replace AO:=Th.aM AO;refine bz (v':= .bool (decide (nP e x=true))) (by simp) ?_;replace hv:=hv.le Th.le;replace he:=he.le Th.le;replace hM:=Th.lt hM;have:=S.size;replace S:=S.ax Th;refine ai rfl rfl (ad (aj (ah (ae rfl rfl (ae rfl rfl ?_)))));refine cK (M:=M1) iR Cf rfl rfl rfl he (ao _ _) (by omega) (fun ahl y' kA Ti=>?_);rw[aw]at kA;obtain rfl:=bp (Ly.symm.trans kA);refine aF (M:=M1) (A:=RT.er) (B:=RT.int .i64) iQ rfl rfl I3 (by decide) Pm rfl rfl (by decide) Ti (ao _ _) (fun ahm Tj=>?_)
     refine bV (M:=M1) ar rfl rfl Tj (ao _ _) (fun Tk=>?_);refine bz (v':= .int .i64 e.2) rfl (ae rfl rfl (b4 rfl rfl rfl (ae rfl rfl ?_)));refine aJ (g:=52) rfl (fun HM=>?_) (fun HM=>?_)
     ·refine al rfl rfl (ae rfl rfl (aR rfl rfl rfl (ad ?_)));refine bH rfl (fun Mm=>?_) (fun Mm=>?_)
      ·refine ah (ae rfl rfl (ae rfl rfl (Rg.uM Tryz.underlying22 I4 rfl rfl rfl (by omega) ?_)));have ahn:=AM (es:=es) (upto:=upto) hi;obtain⟨bo,NX⟩:=um (l:=(rG L es upto i).set i (iJ (es.take k) upto x)) (i:=i) (by rw[List.length_set];omega);refine bS (M:=M1) (u:= .bool bo) I4 rfl rfl AO (by rw[aw];exact NX) rfl rH (fun Uj Tl Ka=>?_);rw[aw,uq]at Tl;replace hv:=hv.le Ka.le;replace he:=he.le Ka.le;replace S:=S.cC Ka (fun b (hb:b=bw)=>by omega);replace hM:=Ka.lt hM;refine ad (ah (ae rfl rfl (bu rfl rfl rfl (by omega) (ai rfl rfl (ad ?_)))));refine⟨rfl,k+1,(.cons rfl (.cons rfl (.cons rfl (.cons rfl (.cons rfl (.cons rfl .nil)))))),?_,?_⟩
       ·exact⟨M1,hM,S,hv,he,rH,by rw[bN,Ly,ck,oY,decide_eq_true HM,Mm];simpa using Tl,by omega⟩
       ·omega
      ·refine aS (ah (ae rfl rfl (bu rfl rfl rfl (by omega) (ai rfl rfl (ad ?_)))));refine⟨rfl,k+1,(.cons rfl (.cons rfl (.cons rfl (.cons rfl (.cons rfl (.cons rfl .nil)))))),?_,?_⟩
       ·exact⟨M1,hM,S,hv,he,rH,by rw[bN,Ly,ck,oY,dX.2 Mm];simpa using AO,by omega⟩
       ·omega
     ·refine aq rfl rfl rfl rfl (az rfl rfl rfl (ad (gG rfl (aS (ah (ae rfl rfl (bu rfl rfl rfl (by omega) (ai rfl rfl (ad ?_)))))))));refine⟨rfl,k+1,(.cons rfl (.cons rfl (.cons rfl (.cons rfl (.cons rfl (.cons rfl .nil)))))),?_,?_⟩
      ·exact⟨M1,hM,S,hv,he,rH,by rw[bN,Ly,ck,oY,decide_eq_false HM];simpa using AO,by omega⟩
      ·omega
    ·refine cG (ah (ae rfl rfl (bu rfl rfl rfl (by omega) (ai rfl rfl (ad ?_)))));refine⟨rfl,i+1,(.cons rfl (.cons rfl (.cons rfl (.cons rfl (.cons rfl .nil))))),?_,?_⟩
     ·exact⟨M1,hM,S,hv,he,rH,by rw[←HL kZ];rw[aW (by omega)]at AO;exact AO,by omega⟩
     ·omega
  ·refine cG (aj (ah (ae rfl rfl (ai rfl rfl (ad (aL ?_))))))
   have e:rG L es upto i=L.map (iJ es upto):=by
    unfold rG;rw[aW (by omega),show L.length-i=0 by omega];simp
   rw[e]at AO;have hV:=J9 (M:=M) AO (fun h=>by have:=iL _ h;omega) (by rw[ch];omega);rw[ch]at hV;exact aO rfl rfl ⟨hV,S.back⟩
end Go.K
namespace Go.K
open Go.Proofs
namespace TKSet
theorem vB:TI Tryz.prog 159 (.slice none 0 0) 1 24:=by unfold TI;kernel_rfl
theorem aag:TI Tryz.prog 161 (.agg #[(.int .i64 0),(.slice none 0 0)]) 2 32:=by unfold TI;kernel_rfl
theorem oZ:TI Tryz.prog 165 (.int .u64 0) 1 8:=by unfold TI;kernel_rfl
theorem aah:placesOf Tryz.prog 161=[(0,1),(1,1)].map some:=by kernel_rfl
theorem aai:Enters Tryz.prog 145:=enters Tryz.func145 rfl (by decide)
theorem Tn:Enters Tryz.prog 188:=enters Tryz.func188 rfl (by decide)
theorem aaj:Enters Tryz.prog 189:=enters Tryz.func189 rfl (by decide)
end TKSet
open TKSet
set_option maxRecDepth 10000
theorem vC {w0:World} {k m x:Nat} (HN:∃e fr,w0.heap[0]? =some (.cells (Fk.map fun(k:Nat)=>Value.int .u8 (k:Int)).toArray e fr)) (hx:x=2^k*(2*m+1)) (hl:x<2^64):
  Spec Tryz.prog 190 #[.int .u64 x] w0 (fun v' w'=>v'= .int .i64 k∧w0=w'):=by
 obtain⟨et,ft,HN⟩:=HN;have hp:=Nat.two_pow_pos k;have xi:0<x:=by rw[hx];exact Nat.mul_pos hp (by omega)
 have hkx:2^k≤x:=by rw[hx];exact Nat.le_mul_of_pos_right _ (by omega)
 have hk:k<64:=by
  rcases cU k 64 with h2|h2
  ·exact h2
  ·have:=kV (n:=2) (by decide) h2;omega
 obtain⟨hd1,hd2⟩:=Mc k hk;have lz:((Fk.map fun(k:Nat)=>Value.int .u8 (k:Int)).toArray)[(2^k*285870213051353865)%2^64/2^58]? =some (.int .u8 (k:Int)):=by rw[fJ,cy,hd2];rfl
 refine aZ (args:=[_]) (fn:=Tryz.f190) Tryz.func190 rfl (n:=14) Tryz.ntmps190 (aj (ah (ai rfl rfl (ad (aj (aj (ah (ae rfl rfl (Rg.AZ rfl rfl rfl (ad (T.AY rfl ((by omega)) ?_)))))))))));refine aS (aj (ah (ae rfl rfl (ae rfl rfl (Rg.Vb rfl rfl (bz (v':= .int .u64 ((2^64-x:Nat):Int)) (by rw[show(0:Int)-(x:Int)=((2^64-x:Nat):Int)-18446744073709551616 from by omega];simp[IntKind.wrap,IntKind.bits,IntKind.signed];omega) (Rg.and rfl rfl rfl (bz (v':= .int .u64 ((2^k:Nat):Int)) (by rw[Bb x (2^64-x) hl (by omega),hx,IL (by omega)]) (Rg.UD rfl rfl rfl (bz (v':= .int .u64 (((2^k*285870213051353865)%2^64:Nat):Int)) (congrArg _ (by rw[show((2^k:Nat):Int)*285870213051353865=((2^k*285870213051353865:Nat):Int)from by rw[Int.natCast_mul];rfl];exact xB _)) (Rg.shr rfl rfl rfl (by decide) ?_)))))))))));refine bz (v':= .int .u64 (((2^k*285870213051353865)%2^64/2^58:Nat):Int)) (congrArg _ (Md _ 58 (by decide))) (Rg.L9 (len:=64) Tryz.underlying276 I5 rfl rfl rfl (by omega) (aH (v:= .int .u8 (k:Int)) cf rfl rfl rfl HN (by rw[aw];exact lz) (Rg.sm cf ar rfl rfl (by omega) (ai rfl rfl (ad (aL ?_))))));exact aO rfl rfl ⟨rfl,rfl⟩
theorem Db {M:aB} {w0:World} {n:Nat} {ws:List Nat} {bs bw:Nat} (h:fQ 161 165 n ws M w0 bs bw) {i:Int}:
  Spec Tryz.prog 188 #[.pointer (some ⟨bs,0,none⟩),.int .i64 i] w0 (fun v' w'=>v'= .bool (decide (0≤i∧i<n))∧w0=w'):=by
 have hS:=h.s;have hW:=h.w;have hlen:=h.len;have eO:=h.ok;have Iu:=h.nn;refine aZ (args:=[_,_]) (fn:=Tryz.f188) Tryz.func188 rfl (n:=15) Tryz.ntmps188 (aj (ah (ai rfl rfl (ad (aj (ah (ae rfl rfl (dz rfl rfl rfl (ae rfl rfl ?_)))))))));refine aJ (g:=7) rfl (fun fR=>?_) (fun fR=>?_)
 ·refine al rfl rfl (ae rfl rfl (al rfl rfl (ae rfl rfl (al rfl rfl (aU rfl ⟨_,rfl⟩ rfl (al rfl rfl (aV dQ rfl rfl I3 (by decide) rfl rfl (al rfl rfl (aH ar rfl rfl rfl (by assumption) rfl (al rfl rfl (b4 rfl rfl rfl ?_)))))))))));refine aR rfl rfl rfl (ai rfl rfl (ad (aL ?_)))
  first
  |exact aO rfl rfl ⟨congrArg Value.bool (decide_eq_decide.2 (by omega)),rfl⟩
  |exact aO rfl rfl ⟨congrArg Value.bool (eM (decide_eq_false (by omega))),rfl⟩
 ·refine aq rfl rfl rfl rfl (aq rfl rfl rfl rfl (aq rfl rfl rfl rfl (aq rfl rfl rfl rfl (aq rfl rfl rfl rfl (aq rfl rfl rfl rfl (az rfl rfl rfl (ai rfl rfl (ad (aL ?_)))))))))
  first
  |exact aO rfl rfl ⟨congrArg Value.bool (decide_eq_decide.2 (by omega)),rfl⟩
  |exact aO rfl rfl ⟨congrArg Value.bool (eM (decide_eq_false (by omega))),rfl⟩
theorem HO {M:aB} {w0:World} {n:Nat} {ws:List Nat} {bs bw:Nat} (h:fQ 161 165 n ws M w0 bs bw) {i:Int}:
  Spec Tryz.prog 189 #[.pointer (some ⟨bs,0,none⟩),.int .i64 i] w0 (fun v' w'=>v'= .bool (KD n ws i)∧w0=w'):=by
 have hS:=h.s;have hW:=h.w;have hlen:=h.len;have eO:=h.ok;have Iu:=h.nn;refine aZ (args:=[_,_]) (fn:=Tryz.f189) Tryz.func189 rfl (n:=23) Tryz.ntmps189 (aj (ah (ai rfl rfl (ad (aj (ah (ae rfl rfl (ae rfl rfl ?_))))))));refine aQ rfl rfl Tn (Db h) (fun r wc h=>?_);obtain⟨rfl,rfl⟩:=h;refine ae rfl rfl ?_;refine aJ (g:=8) rfl (fun gu=>?_) (fun gu=>?_)
 ·obtain⟨j,rfl⟩:∃j:Nat,i=j:=⟨i.toNat,by omega⟩;refine al rfl rfl (ae rfl rfl (al rfl rfl (aU rfl ⟨_,rfl⟩ rfl (al rfl rfl (aV dQ rfl rfl vB (by decide) rfl rfl (al rfl rfl (aH cP rfl rfl rfl (by assumption) rfl (al rfl rfl (ae rfl rfl (al rfl rfl (Rg.si rfl rfl rfl (by omega) ?_)))))))))));refine al rfl rfl (Rg.uM cP oZ rfl rfl rfl (by omega) (al rfl rfl (aH jW rfl rfl rfl hW (v:= .int .u64 ((ws.getD (j/64) 0:Nat):Int)) (by rw[show(((j:Int)/64)).toNat=j/64 from by omega];exact gB (by omega)) (al rfl rfl (ae rfl rfl (al rfl rfl (Rg.sk rfl rfl rfl (by omega) (al rfl rfl (Rg.shr rfl rfl rfl (by omega) (bz (v':= .int .u64 ((ws.getD (j/64) 0/2^(j%64):Nat):Int)) (congrArg _ (by rw[show((j:Int)%64)=((j%64:Nat):Int)from by omega];exact Md _ _ (by omega))) (al rfl rfl ?_)))))))))));refine Rg.and rfl rfl rfl (bz (v':= .int .u64 ((ws.getD (j/64) 0/2^(j%64)%2:Nat):Int)) (congrArg _ (by have:=Bb (ws.getD (j/64) 0/2^(j%64)) 1 (Nat.lt_of_le_of_lt (Nat.div_le_self _ _) (eO.get _)) (by decide);rw[Nat.and_one_is_mod]at this;exact this)) (al rfl rfl (Rg.AZ rfl rfl rfl (aR rfl rfl rfl (ai rfl rfl (ad (aL ?_)))))))
  first
  |exact aO rfl rfl ⟨congrArg Value.bool (by unfold KD bit;rw[decide_eq_true gu,cZ,aw,Nat.testBit_eq_decide_div_mod_eq];exact decide_eq_decide.2 (by omega)),rfl⟩
  |exact aO rfl rfl ⟨congrArg Value.bool (by unfold KD;rw[decide_eq_false gu,eH]),rfl⟩
 ·refine aq rfl rfl rfl rfl (aq rfl rfl rfl rfl (aq rfl rfl rfl rfl (aq rfl rfl rfl rfl (aq rfl rfl rfl rfl (aq rfl rfl rfl rfl (aq rfl rfl rfl rfl (aq rfl rfl rfl rfl (aq rfl rfl rfl rfl (aq rfl rfl rfl rfl (aq rfl rfl rfl rfl (aq rfl rfl rfl rfl ?_)))))))))));refine aq rfl rfl rfl rfl (az rfl rfl rfl (ai rfl rfl (ad (aL ?_))))
  first
  |exact aO rfl rfl ⟨congrArg Value.bool (by unfold KD bit;rw[decide_eq_true gu,cZ,aw,Nat.testBit_eq_decide_div_mod_eq];exact decide_eq_decide.2 (by omega)),rfl⟩
  |exact aO rfl rfl ⟨congrArg Value.bool (by unfold KD;rw[decide_eq_false gu,eH]),rfl⟩
theorem HP {M:aB} {w0:World} {n:Nat} {ws:List Nat} {bs bw:Nat} (h:fQ 161 165 n ws M w0 bs bw) {i:Int} (hb:∀j,bit ws j=true→j<n):
  Spec Tryz.prog 145 #[.pointer (some ⟨bs,0,none⟩),.int .i64 i,.bool true] w0 (fun v' w'=>∃qR,fQ 161 165 n qR M w' bs bw∧(∀j:Nat,bit qR j=(bit ws j&&decide ((j:Int)≠i)))∧Step M w0 M w' (fun b=>b=bw)):=by
 have hS:=h.s;have hW:=h.w;have hlen:=h.len;have eO:=h.ok;have Iu:=h.nn;have hmw:∀b:Nat,b=bw→M b:=fun b hb=>by rw[hb];exact h.mw
 refine aZ (args:=[_,_,_]) (fn:=Tryz.f145) Tryz.func145 rfl (n:=31) Tryz.ntmps145 (aj (ah (ai rfl rfl (ad (aj (aj (ah (ae rfl rfl (ae rfl rfl ?_)))))))));refine aQ rfl rfl Tn (Db h) (fun r wc h=>?_);obtain⟨rfl,rfl⟩:=h;refine rq rfl rfl (bz (v':= .bool (decide (¬(0≤i∧i<n)))) (by rw[decide_not]) (ae rfl rfl ?_));refine aJ (g:=11) rfl (fun BZ=>?_) (fun BZ=>?_)
 ·refine aq rfl rfl rfl rfl (aq rfl rfl rfl rfl (aq rfl rfl rfl rfl (aq rfl rfl rfl rfl (aq rfl rfl rfl rfl (aR rfl rfl rfl (ad (lT rfl (aj (ah (ai rfl rfl (ad ?_)))))))))));refine aL ?_
  have H7:bit ws i.toNat=false∨i<0:=by
   by_cases h0:i<0
   ·exact .inr h0
   ·left
    cases OU:bit ws i.toNat with
    |false=>rfl
    |true=>
     have:=hb _ OU
     first
     |omega
     |(exfalso;apply c1;unfold KD;rw[OU,decide_eq_true (by omega)];rfl)
  refine aO rfl rfl ⟨ws,h,fun j=>?_,(an _ _).ca (fun _ h=>h.elim) hmw⟩;by_cases hj:(j:Int)=i
  ·rw[decide_eq_false (fun h=>h hj),Bool.and_false];rcases H7 with h1|h1
   ·rw[show i.toNat=j from by omega]at h1;exact h1
   ·omega
  ·rw[decide_eq_true hj,iz]
 ·refine al rfl rfl (ae rfl rfl (al rfl rfl (ae rfl rfl (al rfl rfl ?_))));refine aQ rfl rfl aaj (HO h) (fun r wc h=>?_);obtain⟨rfl,rfl⟩:=h;refine al rfl rfl (ae rfl rfl (al rfl rfl (Rg.bne gX rfl rfl rfl (az rfl rfl rfl (ad ?_)))));refine bH rfl (fun c1=>?_) (fun c1=>?_)
  ·refine aj (ah (ai rfl rfl (ad (aL ?_))))
   have H7:bit ws i.toNat=false∨i<0:=by
    by_cases h0:i<0
    ·exact .inr h0
    ·left
     cases OU:bit ws i.toNat with
     |false=>rfl
     |true=>
      have:=hb _ OU
      first
      |omega
      |(exfalso;apply c1;unfold KD;rw[OU,decide_eq_true (by omega)];rfl)
   refine aO rfl rfl ⟨ws,h,fun j=>?_,(an _ _).ca (fun _ h=>h.elim) hmw⟩;by_cases hj:(j:Int)=i
   ·rw[decide_eq_false (fun h=>h hj),Bool.and_false];rcases H7 with h1|h1
    ·rw[show i.toNat=j from by omega]at h1;exact h1
    ·omega
   ·rw[decide_eq_true hj,iz]
  ·refine aS (aj ?_);obtain⟨j,rfl⟩:∃j:Nat,i=j:=⟨i.toNat,by omega⟩;apply T.CA (M:=M) mixed [] [cg.eq _,cg.eq _,cg.eq _,cg.eq (.slice (some ⟨bw,0,none⟩) ws.length ws.length),cg.eq _,cg.eq _,cg.eq (.pointer (some ⟨bw,((j:Int)/64).toNat,none⟩)),cg.eq (.int .u64 ((ws.getD (j/64) 0:Nat):Int)),cg.eq _,cg.eq _,cg.eq (.int .u64 ((2^(j%64):Nat):Int)),cg.eq (.int .u64 (((ws.getD (j/64) 0^^^2^(j%64)):Nat):Int)),cg.eq (.pointer (some ⟨bw,((j:Int)/64).toNat,none⟩))] 13
   ·rfl
   ·rfl
   ·rfl
   ·rfl
   ·rfl
   ·exact fun p hp=>by cases hp
   ·exact ru.none
   ·refine aG ?_ ?_
    ·intro wD E sD;refine ae rfl rfl ?_;exact ad ⟨rfl,rfl,_,rfl,rfl,an _ _⟩
    refine aG ?_ ?_
    ·intro wD E sD;refine ay (aU rfl ⟨_,rfl⟩ rfl ?_);exact ad ⟨rfl,rfl,_,rfl,rfl,an _ _⟩
    refine aG ?_ ?_
    ·intro wD E sD;refine ay (aV dQ rfl rfl vB (by decide) rfl rfl ?_);exact ad ⟨rfl,rfl,_,rfl,rfl,an _ _⟩
    refine aG ?_ ?_
    ·intro wD E sD;refine ay (aH cP rfl rfl rfl (cc sD (by assumption)) rfl ?_);exact ad ⟨rfl,rfl,_,rfl,rfl,an _ _⟩
    refine aG ?_ ?_
    ·intro wD E sD;refine ae rfl rfl ?_;exact ad ⟨rfl,rfl,_,rfl,rfl,an _ _⟩
    refine aG ?_ ?_
    ·intro wD E sD;refine ay (Rg.si rfl rfl rfl (by omega) ?_);exact ad ⟨rfl,rfl,_,rfl,rfl,an _ _⟩
    refine aG ?_ ?_
    ·intro wD E sD;refine ay (ay (Rg.uM cP oZ rfl rfl rfl (by omega) ?_));exact ad ⟨rfl,rfl,_,rfl,rfl,an _ _⟩
    refine aG ?_ ?_
    ·intro wD E sD;refine ay (aH jW rfl rfl rfl (sD.aM hW) (v:= .int .u64 ((ws.getD (j/64) 0:Nat):Int)) (by rw[show(((j:Int)/64)).toNat=j/64 from by omega];exact gB (by omega)) ?_);exact ad ⟨rfl,rfl,_,rfl,rfl,an _ _⟩
    refine aG ?_ ?_
    ·intro wD E sD;refine ae rfl rfl ?_;exact ad ⟨rfl,rfl,_,rfl,rfl,an _ _⟩
    refine aG ?_ ?_
    ·intro wD E sD;refine ay (Rg.sk rfl rfl rfl (by omega) ?_);exact ad ⟨rfl,rfl,_,rfl,rfl,an _ _⟩
    refine aG ?_ ?_
    ·intro wD E sD;refine ay (Rg.shl rfl rfl rfl (by omega) (bz (v':= .int .u64 ((2^(j%64):Nat):Int)) (congrArg _ (by rw[show((j:Int)%64)=((j%64:Nat):Int)from by omega];exact PX _ (by omega))) ?_));exact ad ⟨rfl,rfl,_,rfl,rfl,an _ _⟩
    refine aG ?_ ?_
    ·intro wD E sD;refine ay (ay (Rg.xor rfl rfl rfl (bz (v':= .int .u64 (((ws.getD (j/64) 0^^^2^(j%64)):Nat):Int)) (congrArg _ (PW _ _ (eO.get _) (Nat.pow_lt_pow_right (by decide) (by omega)))) ?_)));exact ad ⟨rfl,rfl,_,rfl,rfl,an _ _⟩
    refine aG ?_ ?_
    ·intro wD E sD;refine ay (ay (ay (ay (ay (ay (ay (ay (ay (ay (ay (ay ?_)))))))))));refine ay (ay (Rg.uM cP oZ rfl rfl rfl (by omega) ?_));exact ad ⟨rfl,rfl,_,rfl,rfl,an _ _⟩
    exact bI.nil
   ·intro Qu mP;refine ay (ay (ay (ay (ay (ay (ay (ay (ay (ay (ay (ay ?_)))))))))));refine ay ?_;refine bS (M:=M) (u:= .int .u64 ((ws.getD (j/64) 0:Nat):Int)) oZ rfl rfl (mP.aM hW) (by rw[show((j:Int)/64).toNat=j/64 from by omega];exact gB (by omega)) rfl h.mw (fun w5 To s5=>?_);rw[show((j:Int)/64).toNat=j/64 from by omega,oM]at To;refine ad (aj (ah (ai rfl rfl (ad (aL ?_)))));have hX:(ws.getD (j/64) 0^^^2^(j%64))<2^64:=Nat.xor_lt_two_pow (eO.get _) (Nat.pow_lt_pow_right (by decide) (by omega));refine aO rfl rfl ⟨ws.set (j/64) (ws.getD (j/64) 0^^^2^(j%64)),(h.step mP (fun h=>h) (fun h=>h)).put s5 (by simp) To (eO.set hX),fun t=>?_,(mP.ca (fun _ h=>h.elim) hmw).trans s5 (fun _ _ h=>h)⟩
    have aal:bit ws j=true:=by
     have:=dY.1 c1;unfold KD at this;rw[aw,bD]at this;exact this.2
    rw[Fh eO (by omega)];by_cases ht:t=j
    ·subst ht;rw[aal];simp
    ·rw[decide_eq_false ht,Bool.xor_false,decide_eq_true (by omega),iz]
theorem AP {M:aB} {w0:World} {n:Nat} {ws:List Nat} {bs bw:Nat} (h:fQ 161 165 n ws M w0 bs bw) {i:Int} (hb:∀j,bit ws j=true→j<n):
  Spec Tryz.prog 102 #[.pointer (some ⟨bs,0,none⟩),.int .i64 i] w0 (fun v' w'=>∃qR,fQ 161 165 n qR M w' bs bw∧(∀j:Nat,bit qR j=(bit ws j&&decide ((j:Int)≠i)))∧Step M w0 M w' (fun b=>b=bw)):=by
 refine aZ (args:=[_,_]) (fn:=Tryz.f102) Tryz.func102 rfl (n:=8) Tryz.ntmps102 (aj (ah (ai rfl rfl (ad (aj (ah (ae rfl rfl (ae rfl rfl ?_))))))));refine aQ rfl rfl aai (HP h hb) (fun r1 w1 h=>?_);obtain⟨qR,h1,h2,h3⟩:=h;refine ai rfl rfl (ad (aL ?_));exact aO rfl rfl ⟨qR,h1,h2,h3⟩
theorem xa {M:aB} {w0:World} {n:Nat} (hn:n≤1099511627776):
  Spec Tryz.prog 143 #[.int .i64 n] w0 (fun v' w'=>∃bs bw,v'= .pointer (some ⟨bs,0,none⟩)∧w0.heap.size≤bs∧w0.heap.size≤bw∧Step M w0 (ins (ins M bw) bs) w' aA∧fQ 161 165 n (List.replicate ((n+63)/64) 0) (ins (ins M bw) bs) w' bs bw):=by
 refine aZ (args:=[_]) (fn:=Tryz.f143) Tryz.func143 rfl (n:=13) Tryz.ntmps143 (aj (ah (ai rfl rfl (ad (aj (ah (ae rfl rfl (Rg.max2 rfl rfl rfl (bz (v':= .int .i64 n) (congrArg _ (by omega)) (ai rfl rfl (ad ?_)))))))))));refine aj (ah (ae rfl rfl (ae rfl rfl (bu rfl rfl rfl (by omega) (gN rfl rfl rfl (by omega) (Rg.si rfl rfl rfl (by omega) (bz (v':= .int .i64 (((n+63)/64:Nat):Int)) (congrArg _ (by omega)) ?_)))))));refine Rg.mk0 M cP oZ rfl rfl rfl rfl (by omega) (by omega) (fun bw w1 z1 UG h1 s1=>?_);refine dU (places:=[(0,1),(1,1)]) dQ aag aah rfl ⟨_,_,rfl,rfl,_,_,rfl,rfl,rfl⟩ (out:=[_,_]) ⟨0,[_],rfl,rfl,by simp[Value.cells],1,[_],rfl,rfl,by simp[Value.cells],rfl⟩ ?_;refine o8 (ins M bw) rfl rfl (fun bs w2 z2 z2' h2 s2=>?_);have y1:=s1.size;refine ai rfl rfl (ad (aL ?_));refine aO rfl rfl ⟨bs,bw,rfl,by omega,z1,s1.ax s2,.inl rfl,.inr (.inl rfl),by omega,by rw[List.length_replicate];exact h2,?_,by simp,fun x hx=>by rw[List.eq_of_mem_replicate hx];decide,hn⟩;have:=s2.aM h1;rw[this];simp[l6]
end Go.K
namespace Go.K
open Go.Proofs
namespace TKSet4
theorem vB:TI Tryz.prog 159 (.slice none 0 0) 1 24:=by unfold TI;kernel_rfl
theorem oZ:TI Tryz.prog 165 (.int .u64 0) 1 8:=by unfold TI;kernel_rfl
theorem OE:Enters Tryz.prog 143:=enters Tryz.func143 rfl (by decide)
end TKSet4
open TKSet4
set_option maxRecDepth 10000
theorem Ei {M:aB} {w0:World} {n:Nat} {ws:List Nat} {bs bw:Nat} (h:fQ 161 165 n ws M w0 bs bw):
  Spec Tryz.prog 50 #[.pointer (some ⟨bs,0,none⟩)] w0 (fun v' w'=>v'= .int .i64 (n:Int)∧w0=w'):=by
 have hS:=h.s;have hW:=h.w;have hlen:=h.len;have eO:=h.ok;have Iu:=h.nn;refine aZ (args:=[_]) (fn:=Tryz.f50) Tryz.func50 rfl (n:=7) Tryz.ntmps50 (aj (ah (ai rfl rfl (ad (aj (ah (ae rfl rfl (aU rfl ⟨_,rfl⟩ rfl (aV dQ rfl rfl I3 (by decide) rfl rfl (aH ar rfl rfl rfl (by assumption) rfl (ai rfl rfl ?_)))))))))));refine ad (aL ?_);exact aO rfl rfl ⟨rfl,rfl⟩
end Go.K
namespace Go.K
open Go.Proofs
namespace TKSet3
theorem vB:TI Tryz.prog 159 (.slice none 0 0) 1 24:=by unfold TI;kernel_rfl
theorem oZ:TI Tryz.prog 165 (.int .u64 0) 1 8:=by unfold TI;kernel_rfl
theorem Tp:Enters Tryz.prog 147:=enters Tryz.func147 rfl (by decide)
theorem aam:Enters Tryz.prog 190:=enters Tryz.func190 rfl (by decide)
end TKSet3
open TKSet3
set_option maxRecDepth 10000
theorem ur {M:aB} {w0:World} {n:Nat} {ws:List Nat} {bs bw:Nat} (h:fQ 161 165 n ws M w0 bs bw) {i:Int} (hi: -1≤i∧i≤1099511627776) (hb:∀j,bit ws j=true→j<n) (HN:∃e fr,w0.heap[0]? =some (.cells (Fk.map fun(k:Nat)=>Value.int .u8 (k:Int)).toArray e fr)):
  Spec Tryz.prog 147 #[.pointer (some ⟨bs,0,none⟩),.int .i64 i] w0 (fun v' w'=>(∃r,v'= .int .i64 r∧KE ws i.toNat r∧ -1≤r∧r≤1099511627776)∧w0=w'):=by
 have hS:=h.s;have hW:=h.w;have hlen:=h.len;have eO:=h.ok;have Iu:=h.nn;refine aZ (args:=[_,_]) (fn:=Tryz.f147) Tryz.func147 rfl (n:=36) Tryz.ntmps147 (aj (ah (ai rfl rfl (ad (aj (ah (ae rfl rfl (Rg.max2 rfl rfl rfl (bz (v':= .int .i64 (i.toNat:Int)) (congrArg _ (by omega)) (ai rfl rfl (ad ?_)))))))))));refine aj (aY ?_);refine dr (σ:=Nat) (fun s=>[(0,.pointer (some ⟨bs,0,none⟩)),(1,.int .i64 s)]) (fun s w=>w0=w∧i.toNat≤s∧(∀t,i.toNat≤t→t<s→bit ws t=false)∧s≤1099511627840) (fun s=>n+64-s) i.toNat (.cons rfl (.cons rfl .nil)) ?_ ?_
 ·exact⟨rfl,a7 _,fun t h1 h2=>by omega,by omega⟩
 ·rintro p w1 ⟨rfl,hp,gS,rr⟩;refine aj (aj (ah (ae rfl rfl (ae rfl rfl (aU rfl ⟨_,rfl⟩ rfl (aV dQ rfl rfl I3 (by decide) rfl rfl (aH ar rfl rfl rfl (by assumption) rfl (b4 rfl rfl rfl (ad ?_)))))))));refine bH rfl (fun c2=>?_) (fun c2=>?_)
  ·refine aS (aY (aj (aj (ah (ae rfl rfl (aU rfl ⟨_,rfl⟩ rfl (aV dQ rfl rfl vB (by decide) rfl rfl (aH cP rfl rfl rfl (by assumption) rfl (ae rfl rfl (Rg.si rfl rfl rfl (by omega) (Rg.uM cP oZ rfl rfl rfl (by omega) ?_)))))))))));refine aH jW rfl rfl rfl hW (v:= .int .u64 ((ws.getD (p/64) 0:Nat):Int)) (by rw[show(((p:Int)/64)).toNat=p/64 from by omega];exact gB (by omega)) (ae rfl rfl (Rg.sk rfl rfl rfl (by omega) (Rg.shr rfl rfl rfl (by omega) (bz (v':= .int .u64 ((ws.getD (p/64) 0/2^(p%64):Nat):Int)) (congrArg _ (by rw[show((p:Int)%64)=((p%64:Nat):Int)from by omega];exact Md _ _ (by omega))) (ai rfl rfl (ad (aj (ah (ae rfl rfl (eW rfl rfl rfl (ad ?_)))))))))));refine bH rfl (fun c4=>?_) (fun c4=>?_)
   ·refine aj (ah (ae rfl rfl (ae rfl rfl ?_)));obtain⟨k,m,A5⟩:=Fi (ws.getD (p/64) 0/2^(p%64)) (Nat.pos_of_ne_zero fun h=>c4 (by rw[h];rfl));have xl:=y8 (eO.get _) (show p%64<64 by omega) A5;have aan:ws.getD (p/64) 0/2^(p%64)<2^64:=Nat.lt_of_le_of_lt (Nat.div_le_self _ _) (eO.get _);refine aQ rfl rfl aam (vC (k:=k) (m:=m) HN A5 aan) (fun r wc h=>?_);obtain⟨rfl,rfl⟩:=h;refine bu rfl rfl rfl (by omega) (ai rfl rfl (ad (aL ?_)));have hlb:=fun t ht=>(xA (k:=k) (m:=m)).2 t ht
    have hbk:bit ws (p+k)=true:=by rw[sT xl,A5];exact xA.1
    have:=hb _ hbk
    exact aO rfl rfl ⟨⟨_,rfl,.inl ⟨p+k,by omega,by omega,hbk,fun t h1 h2=>by
     rcases cU t p with h|h
     ·exact gS t h1 h
     ·have h3:=sT (ws:=ws) (i:=p) (t:=t-p) (by omega);rw[show p+(t-p)=t from by omega]at h3;rw[h3,A5];exact hlb _ (by omega)⟩,by omega,by omega⟩,rfl⟩
   ·have hz0:ws.getD (p/64) 0/2^(p%64)=0:=by
     have:=dY.1 c4;exact Int.ofNat.inj this
    refine aS (ah (ae rfl rfl (ae rfl rfl (Rg.sk rfl rfl rfl (by omega) (gN rfl rfl rfl (by omega) (bu rfl rfl rfl (by omega) (ai rfl rfl (ad ?_))))))));refine⟨rfl,p+(64-p%64),(.cons rfl (.cons (by rw[show((p+(64-p%64):Nat):Int)=(p:Int)+(64-(p:Int)%64)from by omega];rfl) .nil)),?_,?_⟩
    ·refine⟨rfl,by omega,fun t h1 h2=>?_,by omega⟩;rcases cU t p with h|h
     ·exact gS t h1 h
     ·have h3:=sT (ws:=ws) (i:=p) (t:=t-p) (by omega);rw[show p+(t-p)=t from by omega]at h3;rw[h3,hz0];simp
    ·show n+64-(p+(64-p%64))<n+64-p;omega
  ·refine cG (aj (ah (ai rfl rfl (ad (aL ?_)))))
   exact aO rfl rfl ⟨⟨_,rfl,.inr ⟨rfl,fun t h1=>by
    rcases cU t p with h|h
    ·exact gS t h1 h
    ·cases D8:bit ws t with
     |false=>rfl
     |true=>have:=hb t D8;omega⟩,by omega,by omega⟩,rfl⟩
theorem Ej {M:aB} {w0:World} {bs:Nat} (hM:Lt M w0):
  Spec Tryz.prog 103 #[.pointer (some ⟨bs,0,none⟩)] w0 (fun v' w'=>∃bl,v'= .func (.func 146) #[] #[.pointer (some ⟨bl,0,none⟩)]∧w'.heap[bl]? =some (.cells #[.pointer (some ⟨bs,0,none⟩)] 88 (0,0))∧w0.heap.size≤bl∧Step M w0 M w' aA):=by
 refine aZ (args:=[_]) (fn:=Tryz.f103) Tryz.func103 rfl (n:=4) Tryz.ntmps103 (aj (ah ?_));refine o8 M rfl rfl (fun bl w1 h1 KB hS s1=>?_);change w1.heap[bl]? =some (.cells #[.pointer (some ⟨bs,0,none⟩)] _ _)at hS;refine ai rfl rfl (ad (aj (ah (iw (xs:=[]) (ys:=[.tmp 1]) rfl rfl rfl (ai rfl rfl (ad (aL ?_)))))));exact aO rfl rfl ⟨bl,rfl,hS,h1,s1.back⟩
theorem Ch {w0:World} {n:Nat} {ws:List Nat} {bs bw bl yl:Nat} {J:Nat→aB→World→Prop} {M:aB} {Jx:World→Prop} (hb:∀j,bit ws j=true→j<n) (EG:∀p M w,J p M w→w.heap[bl]? =some (.cells #[.pointer (some ⟨bs,0,none⟩)] 88 (0,0))∧fQ 161 165 n ws M w bs bw∧(∃e fr,w.heap[0]? =some (.cells (Fk.map fun(k:Nat)=>Value.int .u8 (k:Int)).toArray e fr))) (hy:∀(p j:Nat) (M:aB) (w:World),J p M w→p≤j→bit ws j=true→(∀t,p≤t→t<j→bit ws t=false)→qO Tryz.prog yl [.int .i64 j].toArray w (fun r w'=>∃c,r= .bool c∧(c=true→∃M',J (j+1) M' w')∧(c=false→Jx w'))) (h0:J 0 M w0):
  Spec Tryz.prog 146 #[.func (.yield yl) #[] #[],.pointer (some ⟨bl,0,none⟩)] w0 (fun _ w'=>(∃p M',J p M' w'∧∀t,p≤t→bit ws t=false)∨Jx w'):=by
 obtain⟨O7,MF,aao⟩:=EG _ _ _ h0;refine aZ (args:=[_,_]) (fn:=Tryz.f146) Tryz.func146 rfl (n:=17) Tryz.ntmps146 (aj (ah (aH Tryz.underlying88 rfl rfl rfl (by assumption) rfl ?_)));refine aQ rfl rfl Tp (ur MF (i:=0) (by omega) hb aao) (fun r wc h=>?_);obtain⟨⟨r,rfl,hr,Pn,uC⟩,rfl⟩:=h;refine ai rfl rfl (ad (aY ?_));refine dr (σ:=Nat×Int) (fun s=>[(0,.func (.yield yl) #[] #[]),(1,.pointer (some ⟨bl,0,none⟩)),(3,.int .i64 s.2)]) (fun s w=>(∃M1,J s.1 M1 w)∧KE ws s.1 s.2∧ -1≤s.2∧s.2≤1099511627776∧s.1≤n) (fun s=>n+1-s.1) (0,r) (.cons rfl (.cons rfl (.cons rfl .nil))) ?_ ?_
 ·exact⟨⟨M,h0⟩,hr,Pn,uC,bB _⟩
 ·clear hr Pn uC;rintro⟨p,r⟩ w1 ⟨⟨M1,hJ⟩,hr,Pn,uC,Sz⟩;dsimp only at hJ hr Pn uC Sz ⊢;refine aj (aj (ah (ae rfl rfl (dz rfl rfl rfl (ae rfl rfl ?_)))));refine aJ (g:=8) rfl (fun fR=>?_) (fun fR=>?_)
  ·refine al rfl rfl (ae rfl rfl (al rfl rfl (ae rfl rfl (al rfl rfl ?_))))
   have hrj:∃j:Nat,r=j∧p≤j∧bit ws j=true∧∀t,p≤t→t<j→bit ws t=false:=by
    rcases hr with h|h
    ·exact h
    ·omega
   obtain⟨j,rfl,hpj,Tq,gS⟩:=hrj;have hjn:=hb j Tq;refine Rg.yield rfl (vs:=[.int .i64 j]) rfl rfl (hy p j M1 _ hJ hpj Tq gS) (fun r4 w5 h5=>?_);obtain⟨c,rfl,hc5,SV⟩:=h5;refine bz (v':= .bool (decide (c=true))) (by simp) (aR rfl rfl rfl (ad ?_));refine bH rfl (fun c1=>?_) (fun c1=>?_)
   ·obtain⟨M2,Up⟩:=hc5 c1;obtain⟨Ex,yA,aaq⟩:=EG _ _ _ Up;refine aS (aj (aY (aS (ah (aH Tryz.underlying88 rfl rfl rfl (by assumption) rfl (ae rfl rfl (bu rfl rfl rfl (by omega) ?_)))))));refine aQ rfl rfl Tp (ur yA (i:=(j:Int)+1) (by have:=yA.nn;omega) hb aaq) (fun r wc h=>?_);obtain⟨⟨r2,rfl,Tr,Ou,hr4⟩,rfl⟩:=h;refine ai rfl rfl (ad ?_);refine⟨rfl,(j+1,r2),(.cons rfl (.cons rfl (.cons rfl .nil))),?_,?_⟩
    ·refine⟨⟨M2,Up⟩,?_,Ou,hr4,by simp only;omega⟩;rw[show((j:Int)+1).toNat=j+1 from by omega]at Tr;exact Tr
    ·simp only;omega
   ·refine cG ?_;change sh Tryz.prog Tryz.f146 (fun _ w'=>(∃p M',J p M' w'∧∀t,p≤t→bit ws t=false)∨Jx w') .normal _ [] _
    first
    |exact gZ rfl (.inr (SV (by simpa using c1)))
    |(have kL:∀t,p≤t→bit ws t=false:=by
       rcases hr with⟨j,h,_⟩|h
       ·omega
       ·exact h.2
      exact gZ rfl (.inl ⟨p,M1,hJ,kL⟩))
  ·refine aq rfl rfl rfl rfl (aq rfl rfl rfl rfl (aq rfl rfl rfl rfl (az rfl rfl rfl (ad (gG rfl (cG ?_))))));change sh Tryz.prog Tryz.f146 (fun _ w'=>(∃p M',J p M' w'∧∀t,p≤t→bit ws t=false)∨Jx w') .normal _ [] _
   first
   |exact gZ rfl (.inr (SV (by simpa using c1)))
   |(have kL:∀t,p≤t→bit ws t=false:=by
      rcases hr with⟨j,h,_⟩|h
      ·omega
      ·exact h.2
     exact gZ rfl (.inl ⟨p,M1,hJ,kL⟩))
end Go.K
namespace Go.K
open Go.Proofs
namespace TKSet2
theorem vB:TI Tryz.prog 159 (.slice none 0 0) 1 24:=by unfold TI;kernel_rfl
theorem oZ:TI Tryz.prog 165 (.int .u64 0) 1 8:=by unfold TI;kernel_rfl
theorem OE:Enters Tryz.prog 143:=enters Tryz.func143 rfl (by decide)
theorem aar:Enters Tryz.prog 144:=enters Tryz.func144 rfl (by decide)
end TKSet2
open TKSet2
set_option maxRecDepth 10000
theorem xb {ws vs:List Nat} {n:Nat} (hl:ws.length=(n+63)/64) (hv:vs.length=(n+63)/64) (hr:0<n%64) (h1:∀j,j<64*ws.length→bit vs j= !bit ws j) (j:Nat):bit (vs.set (vs.length-1) (vs.getD (vs.length-1) 0%2^(n%64))) j=(decide (j<n)&& !bit ws j):=by
 rw[xD _ (by omega)];by_cases hj:j/64=vs.length-1
 ·rw[if_pos hj,Nat.testBit_mod_two_pow];have h2:=h1 j (by omega);have h3:(vs.getD (vs.length-1) 0).testBit (j%64)=bit vs j:=by unfold bit;rw[hj]
  rw[h3,h2];congr 1;exact decide_eq_decide.2 (by omega)
 ·rw[if_neg hj];by_cases qi:j<n
  ·rw[h1 j (by omega),decide_eq_true qi,cZ]
  ·rw[decide_eq_false qi,eH,IM (by omega)]
theorem AQ {ws vs:List Nat} {n:Nat} (hl:ws.length=(n+63)/64) (hr:n%64=0) (h1:∀j,j<64*ws.length→bit vs j= !bit ws j) (h2:∀j,64*ws.length≤j→bit vs j=false) (j:Nat):bit vs j=(decide (j<n)&& !bit ws j):=by
 by_cases qi:j<n
 ·rw[h1 j (by omega),decide_eq_true qi,cZ]
 ·rw[decide_eq_false qi,eH,h2 j (by omega)]
theorem Ek {M:aB} {w0:World} {n:Nat} {ws:List Nat} {bs bw:Nat} (h:fQ 161 165 n ws M w0 bs bw):
  Spec Tryz.prog 144 #[.pointer (some ⟨bs,0,none⟩)] w0 (fun v' w'=>∃os ow qR,v'= .pointer (some ⟨os,0,none⟩)∧w0.heap.size≤os∧w0.heap.size≤ow∧Step M w0 (ins (ins M ow) os) w' aA∧fQ 161 165 n qR (ins (ins M ow) os) w' os ow∧∀j,bit qR j=(decide (j<n)&& !bit ws j)):=by
 have hS:=h.s;have hW:=h.w;have hlen:=h.len;have eO:=h.ok;have Iu:=h.nn;refine aZ (args:=[_]) (fn:=Tryz.f144) Tryz.func144 rfl (n:=56) Tryz.ntmps144 (aj (ah (ai rfl rfl (ad (aj (ah (ae rfl rfl (aU rfl ⟨_,rfl⟩ rfl (aV dQ rfl rfl I3 (by decide) rfl rfl (aH ar rfl rfl rfl (by assumption) rfl ?_))))))))));refine aQ rfl rfl OE (xa (M:=M) Iu) (fun r1 w1 h=>?_);obtain⟨os,ow,rfl,z1,z2,s1,hO1⟩:=h;obtain⟨M1,vw⟩:∃M1,M1=ins (ins M ow) os:=⟨_,rfl⟩;rw[←vw]at s1 hO1;have h1:=h.step s1 (fun h=>h) (fun h=>h);have hS1:=h1.s;have lbs:=ak hS;have lbw:=ak hW;refine ai rfl rfl (ad (aj (aj (ah (ae rfl rfl (aU rfl ⟨_,rfl⟩ rfl (aV dQ rfl rfl vB (by decide) rfl rfl (aH cP rfl rfl rfl (by assumption) rfl (Rg.xC cP rfl rfl (ae rfl rfl (ad ?_)))))))))));refine aY ?_;refine dr (σ:=Nat×List Nat) (fun s=>[(0,.pointer (some ⟨bs,0,none⟩)),(3,.pointer (some ⟨os,0,none⟩)),(15,.slice (some ⟨bw,0,none⟩) ws.length ws.length),(16,.int .i64 ws.length),(17,.int .i64 s.1)]) (fun s w=>s.1≤ws.length∧fQ 161 165 n ws M1 w bs bw∧fQ 161 165 n s.2 M1 w os ow∧(∀j,j<64*s.1→bit s.2 j= !bit ws j)∧(∀j,64*s.1≤j→bit s.2 j=false)∧Step M1 w1 M1 w (fun b=>b=ow)) (fun s=>ws.length-s.1) (0,List.replicate ((n+63)/64) 0) (.cons rfl (.cons rfl (.cons rfl (.cons rfl (.cons rfl .nil))))) ?_ ?_
 ·exact⟨bB _,h1,hO1,fun j hj=>by omega,fun j hj=>y7 _ _,(an _ _).ca (fun _ h=>h.elim) (fun b hb=>by rw[hb];exact hO1.mw)⟩
 ·rintro⟨k,vs⟩ w2 ⟨hk,h2,yv,rC,yy,S2⟩;dsimp only at hk yv rC yy ⊢;have hS2:=h2.s;have hOS:=yv.s;have jH:=yv.len;refine aj (ah (b4 rfl rfl rfl (ad (aj ?_))));refine bH rfl (fun c3=>?_) (fun c3=>?_)
  ·refine aS (aj (aY (aj (ah (ae rfl rfl (Rg.uM cP oZ rfl rfl rfl (by omega) (aH jW rfl rfl rfl h2.w (v:= .int .u64 ((ws.getD (k) 0:Nat):Int)) (by rw[show((k:Int)).toNat=k from by omega];exact gB (by omega)) (ai rfl rfl (ai rfl rfl (ad (ah ?_)))))))))));refine ae rfl rfl (aU rfl ⟨_,rfl⟩ rfl (aV dQ rfl rfl vB (by decide) rfl rfl (aH cP rfl rfl rfl (by assumption) rfl (ae rfl rfl (ae rfl rfl (Rg.PV rfl rfl (eO.get _) (Rg.uM cP oZ rfl rfl rfl (by omega) ?_)))))));refine bS (M:=M1) (u:= .int .u64 ((vs.getD k 0:Nat):Int)) oZ rfl rfl yv.w (by rw[aw];exact gB (by omega)) rfl yv.mw (fun w5 To s5=>?_);rw[aw,oM]at To;refine ad (ah (bu rfl rfl rfl (by omega) (ae rfl rfl (ad ?_))));refine⟨rfl,(k+1,vs.set k (2^64-1-ws.getD k 0)),(.cons rfl (.cons rfl (.cons rfl (.cons rfl (.cons rfl .nil))))),?_,?_⟩
   ·refine⟨by simp only;omega,h2.step s5 (by omega) (by omega),yv.put s5 (by simp) To (yv.ok.set (by omega)),fun j hj=>?_,fun j hj=>?_,S2.trans s5 (fun _ _ h=>h)⟩
    ·simp only at hj ⊢;rw[xD _ (by omega)];by_cases Pj:j/64=k
     ·rw[if_pos Pj,Fl (eO.get _) (by omega)];unfold bit;rw[Pj]
     ·rw[if_neg Pj];exact rC j (by omega)
    ·simp only at hj ⊢;rw[xD _ (by omega),if_neg (by omega)];exact yy j (by omega)
   ·simp only;omega
  ·refine cG (aj (aj (ah (ae rfl rfl (aU rfl ⟨_,rfl⟩ rfl (aV dQ rfl rfl I3 (by decide) rfl rfl (aH ar rfl rfl rfl (by assumption) rfl (Rg.sk rfl rfl rfl (by omega) (bz (v':= .int .i64 ((n%64:Nat):Int)) (congrArg _ (by omega)) (ai rfl rfl (ad ?_)))))))))));refine aj (ah (ae rfl rfl (mL rfl rfl rfl (ad ?_))));refine bH rfl (fun c8=>?_) (fun c8=>?_)
   ·have OQ:=Nat.two_pow_pos (n%64);have hp3:2^(n%64)<2^64:=Nat.pow_lt_pow_right (by decide) (by omega);apply T.CA (M:=M1) mixed [] [cg.eq _,cg.eq _,cg.eq _,cg.eq (.slice (some ⟨ow,0,none⟩) vs.length vs.length),cg.eq _,cg.eq _,cg.eq _,cg.eq (.slice (some ⟨ow,0,none⟩) vs.length vs.length),cg.eq (.int .i64 vs.length),cg.eq (.int .i64 ((vs.length-1:Nat):Int)),cg.eq (.pointer (some ⟨ow,((vs.length-1:Nat):Int).toNat,none⟩)),cg.eq (.int .u64 ((vs.getD (vs.length-1) 0:Nat):Int)),cg.eq _,cg.eq (.int .u64 ((2^(n%64):Nat):Int)),cg.eq (.int .u64 ((2^(n%64)-1:Nat):Int)),cg.eq (.int .u64 (((vs.getD (vs.length-1) 0%2^(n%64)):Nat):Int)),cg.eq (.pointer (some ⟨ow,((vs.length-1:Nat):Int).toNat,none⟩))] 17
    ·rfl
    ·rfl
    ·rfl
    ·rfl
    ·rfl
    ·exact fun p hp=>by cases hp
    ·exact ru.none
    ·refine aG ?_ ?_
     ·intro wD E sD;refine ae rfl rfl ?_;exact ad ⟨rfl,rfl,_,rfl,rfl,an _ _⟩
     refine aG ?_ ?_
     ·intro wD E sD;refine ay (aU rfl ⟨_,rfl⟩ rfl ?_);exact ad ⟨rfl,rfl,_,rfl,rfl,an _ _⟩
     refine aG ?_ ?_
     ·intro wD E sD;refine ay (aV dQ rfl rfl vB (by decide) rfl rfl ?_);exact ad ⟨rfl,rfl,_,rfl,rfl,an _ _⟩
     refine aG ?_ ?_
     ·intro wD E sD;refine ay (aH cP rfl rfl rfl (cc sD (by assumption)) rfl ?_);exact ad ⟨rfl,rfl,_,rfl,rfl,an _ _⟩
     refine aG ?_ ?_
     ·intro wD E sD;refine ae rfl rfl ?_;exact ad ⟨rfl,rfl,_,rfl,rfl,an _ _⟩
     refine aG ?_ ?_
     ·intro wD E sD;refine ay (aU rfl ⟨_,rfl⟩ rfl ?_);exact ad ⟨rfl,rfl,_,rfl,rfl,an _ _⟩
     refine aG ?_ ?_
     ·intro wD E sD;refine ay (aV dQ rfl rfl vB (by decide) rfl rfl ?_);exact ad ⟨rfl,rfl,_,rfl,rfl,an _ _⟩
     refine aG ?_ ?_
     ·intro wD E sD;refine ay (aH cP rfl rfl rfl (cc sD (by assumption)) rfl ?_);exact ad ⟨rfl,rfl,_,rfl,rfl,an _ _⟩
     refine aG ?_ ?_
     ·intro wD E sD;refine ay (Rg.xC cP rfl rfl ?_);exact ad ⟨rfl,rfl,_,rfl,rfl,an _ _⟩
     refine aG ?_ ?_
     ·intro wD E sD;refine ay (gN rfl rfl rfl (by omega) (bz (v':= .int .i64 ((vs.length-1:Nat):Int)) (congrArg _ (by omega)) ?_));exact ad ⟨rfl,rfl,_,rfl,rfl,an _ _⟩
     refine aG ?_ ?_
     ·intro wD E sD;refine ay (ay (Rg.uM cP oZ rfl rfl rfl (by omega) ?_));exact ad ⟨rfl,rfl,_,rfl,rfl,an _ _⟩
     refine aG ?_ ?_
     ·intro wD E sD;refine ay (aH jW rfl rfl rfl (sD.aM yv.w) (v:= .int .u64 ((vs.getD (vs.length-1) 0:Nat):Int)) (by rw[aw];exact gB (by omega)) ?_);exact ad ⟨rfl,rfl,_,rfl,rfl,an _ _⟩
     refine aG ?_ ?_
     ·intro wD E sD;refine ae rfl rfl ?_;exact ad ⟨rfl,rfl,_,rfl,rfl,an _ _⟩
     refine aG ?_ ?_
     ·intro wD E sD;refine ay (Rg.shl rfl rfl rfl (by omega) (bz (v':= .int .u64 ((2^(n%64):Nat):Int)) (congrArg _ (PX _ (by omega))) ?_));exact ad ⟨rfl,rfl,_,rfl,rfl,an _ _⟩
     refine aG ?_ ?_
     ·intro wD E sD;refine ay (Rg.LJ rfl rfl rfl (bz (v':= .int .u64 ((2^(n%64)-1:Nat):Int)) (congrArg _ (by rw[show((2^(n%64):Nat):Int)-1=((2^(n%64)-1:Nat):Int)from by omega,xB,lp (by omega)])) ?_));exact ad ⟨rfl,rfl,_,rfl,rfl,an _ _⟩
     refine aG ?_ ?_
     ·intro wD E sD;refine ay (ay (Rg.and rfl rfl rfl (bz (v':= .int .u64 (((vs.getD (vs.length-1) 0%2^(n%64)):Nat):Int)) (congrArg _ (by rw[Bb _ _ (yv.ok.get _) (by omega),Nat.and_two_pow_sub_one_eq_mod])) ?_)));exact ad ⟨rfl,rfl,_,rfl,rfl,an _ _⟩
     refine aG ?_ ?_
     ·intro wD E sD;refine ay (ay (ay (ay (ay (ay (ay (ay (ay (ay (ay (ay ?_)))))))))));refine ay (ay (ay (ay (ay (ay (Rg.uM cP oZ rfl rfl rfl (by omega) ?_))))));exact ad ⟨rfl,rfl,_,rfl,rfl,an _ _⟩
     exact bI.nil
    ·intro NQ wL;refine ay (ay (ay (ay (ay (ay (ay (ay (ay (ay (ay (ay ?_)))))))))));refine ay (ay (ay (ay (ay ?_))));refine bS (M:=M1) (u:= .int .u64 ((vs.getD (vs.length-1) 0:Nat):Int)) oZ rfl rfl (wL.aM yv.w) (by rw[aw];exact gB (by omega)) rfl yv.mw (fun w9 hW9 s9=>?_);rw[aw,oM]at hW9;refine ad (aj (ah (ae rfl rfl (ai rfl rfl (ad (aL ?_))))));have yS:k=ws.length:=by omega
     first
     |exact aO rfl rfl ⟨os,ow,vs.set (vs.length-1) (vs.getD (vs.length-1) 0%2^(n%64)),rfl,z1,z2,by rw[←vw];exact(s1.cC S2 (fun b hb=>by omega)).ax wL |>.cC s9 (fun b hb=>by omega),by rw[←vw];exact(yv.step wL (fun h=>h) (fun h=>h)).put s9 (by simp) hW9 (yv.ok.set (Nat.lt_of_le_of_lt (Nat.mod_le _ _) (yv.ok.get _))),fun j=>xb hlen jH (by omega) (by rw[←yS];exact rC) j⟩
     |exact aO rfl rfl ⟨os,ow,vs,rfl,z1,z2,by rw[←vw];exact s1.cC S2 (fun b hb=>by omega),by rw[←vw];exact yv,fun j=>AQ hlen (by omega) (by rw[←yS];exact rC) (by rw[←yS];exact yy) j⟩
   ·refine aS (aj (ah (ae rfl rfl (ai rfl rfl (ad (aL ?_))))));have yS:k=ws.length:=by omega
    first
    |exact aO rfl rfl ⟨os,ow,vs.set (vs.length-1) (vs.getD (vs.length-1) 0%2^(n%64)),rfl,z1,z2,by rw[←vw];exact(s1.cC S2 (fun b hb=>by omega)).ax wL |>.cC s9 (fun b hb=>by omega),by rw[←vw];exact(yv.step wL (fun h=>h) (fun h=>h)).put s9 (by simp) hW9 (yv.ok.set (Nat.lt_of_le_of_lt (Nat.mod_le _ _) (yv.ok.get _))),fun j=>xb hlen jH (by omega) (by rw[←yS];exact rC) j⟩
    |exact aO rfl rfl ⟨os,ow,vs,rfl,z1,z2,by rw[←vw];exact s1.cC S2 (fun b hb=>by omega),by rw[←vw];exact yv,fun j=>AQ hlen (by omega) (by rw[←yS];exact rC) (by rw[←yS];exact yy) j⟩
theorem El {M:aB} {w0:World} {n:Nat} (hn:n≤1099511627776):
  Spec Tryz.prog 101 #[.int .i64 n] w0 (fun v' w'=>∃os ow qR M',v'= .pointer (some ⟨os,0,none⟩)∧w0.heap.size≤os∧w0.heap.size≤ow∧Step M w0 M' w' aA∧fQ 161 165 n qR M' w' os ow∧∀j,bit qR j=decide (j<n)):=by
 refine aZ (args:=[_]) (fn:=Tryz.f101) Tryz.func101 rfl (n:=6) Tryz.ntmps101 (aj (ah (ai rfl rfl (ad (aj (ah (ae rfl rfl ?_)))))));refine aQ rfl rfl OE (xa (M:=M) hn) (fun r1 w1 h=>?_);obtain⟨bs,bw,rfl,z1,z2,s1,h1⟩:=h;refine aQ rfl rfl aar (Ek h1) (fun r2 w2 h=>?_);obtain⟨os,ow,qR,rfl,z3,z4,s2,h2,hb⟩:=h;have y1:=s1.size;refine ai rfl rfl (ad (aL ?_));exact aO rfl rfl ⟨os,ow,qR,_,rfl,by omega,by omega,s1.ax s2,h2,fun j=>by rw[hb j,y7];simp⟩
end Go.K
namespace Go.K
open Go.Proofs
namespace TKSet5
theorem aau:Enters Tryz.prog 103:=enters Tryz.func103 rfl (by decide)
theorem aav:Enters Tryz.prog 146:=enters Tryz.func146 rfl (by decide)
end TKSet5
open TKSet5
set_option maxRecDepth 10000
def low (ws:List Nat):Nat→List Int
 |0=>[]
 |p+1=>if bit ws p then low ws p++[(p:Int)]else low ws p
theorem yw (ws:List Nat):∀p,(low ws p).length≤p
 |0=>a7 _
 |p+1=>by
  have:=yw ws p;unfold low;split
  ·simp;omega
  ·omega
theorem pW {ws:List Nat} {p:Nat}:∀{j:Nat},p≤j→(∀t,p≤t→t<j→bit ws t=false)→low ws j=low ws p
 |0,h,_=>by rw[show p=0 by omega]
 |j+1,h,gS=>by
  rcases jx h with e|h1
  ·rw[e]
  ·rw[low,gS j (by omega) (by omega)];simp only[Bool.false_eq_true,if_false];exact pW (by omega) (fun t h1 h2=>gS t h1 (by omega))
theorem Kb:J7 (RT.int .i64):=fun _ _ _ _ _ _ h=>h
structure EJ (n:Nat) (ws:List Nat) (bs bw bl:Nat) (M:aB) (w:World):Prop where
 f: ¬M bl∧¬M bs∧¬M bw∧¬M 0
 l:w.heap[bl]? =some (.cells #[.pointer (some ⟨bs,0,none⟩)] 88 (0,0))
 s:fQ 161 165 n ws (fun _=>True) w bs bw
 t:∃e fr,w.heap[0]? =some (.cells (Fk.map fun(k:Nat)=>Value.int .u8 (k:Int)).toArray e fr)
theorem EJ.keeps {n:Nat} {ws:List Nat} {bs bw bl:Nat} {M M':aB} {w w':World} (h:EJ n ws bs bw bl M w) (l:Le M w M' w'):EJ n ws bs bw bl M' w':=by
 obtain⟨⟨f1,f2,f3,f4⟩,hl,hs,e,fr,ht⟩:=h;have a1:=l bl (ak hl) f1;have a2:=l bs (ak hs.s) f2;have a3:=l bw (ak hs.w) f3;have a4:=l 0 (ak ht) f4;exact⟨⟨a1.1,a2.1,a3.1,a4.1⟩,a1.2.trans hl,⟨trivial,trivial,hs.ne,a2.2.trans hs.s,a3.2.trans hs.w,hs.len,hs.ok,hs.nn⟩,e,fr,a4.2.trans ht⟩
theorem Ci {M:aB} {w0:World} {n:Nat} {ws:List Nat} {bs bw:Nat} (hM:Lt M w0) (h:fQ 161 165 n ws (fun _=>True) w0 bs bw) (hb:∀j,bit ws j=true→j<n) (hf: ¬M bs∧¬M bw∧¬M 0) (HN:∃e fr,w0.heap[0]? =some (.cells (Fk.map fun(k:Nat)=>Value.int .u8 (k:Int)).toArray e fr)):
  Spec Tryz.prog 52 #[.pointer (some ⟨bs,0,none⟩)] w0 (fun v w=>∃M',Own (RT.int .i64) 3 M' w w0.heap.size v (low ws n)∧Step M w0 M' w aA):=by
 have iL:=hM;refine nk (args:=[_]) (fn:=Tryz.f52) Tryz.func52 rfl (n:=13) Tryz.ntmps52 ?_;have S:Step M w0 M w0 aA:=(an _ _).ca (fun _ h=>h.elim) (fun _ h=>h.elim);refine aj (ah (ai rfl rfl (ad (aj (ah ?_)))));refine fh M nY rfl (fun mQ DK Qz QA jD nZ=>?_);obtain⟨nz,nA⟩:∃M',M'=ins M mQ:=⟨_,rfl⟩;rw[←nA]at nZ;have ia:nz mQ:=by rw[nA];exact .inl rfl
 change DK.heap[mQ]? =some (.cells #[.slice none 0 0] _ _)at jD;replace hM:=nZ.lt hM;have:=S.size;replace S:=S.ax nZ;refine ad (aj (aj (ah (ae rfl rfl ?_))));refine aQ rfl rfl aau (Ej (bs:=bs) hM) (fun r2 w2 hc=>?_);obtain⟨bl,rfl,gl,AX,s2⟩:=hc;have fl: ¬nz bl:=fun h=>by have:=hM _ h;omega
 have hk:EJ n ws bs bw bl nz w2:=by
  obtain⟨e,fr,ht⟩:=HN;have q:=S.ax s2;exact⟨⟨fl,fun hn=>hf.1 ((q.mem _ (ak h.s)).1 hn),fun hn=>hf.2.1 ((q.mem _ (ak h.w)).1 hn),fun hn=>hf.2.2 ((q.mem _ (ak ht)).1 hn)⟩,gl,⟨trivial,trivial,h.ne,q.aM h.s,q.aM h.w,h.len,h.ok,h.nn⟩,e,fr,q.aM ht⟩
 have:=ak jD;replace ia:=(s2.mem _ this).2 ia;replace jD:=s2.aM jD;replace hM:=s2.lt hM;have:=S.size;replace S:=S.ax s2;refine ad (aY ?_);refine T.range (gf:=146) (lb:=[.pointer (some ⟨bl,0,none⟩)].toArray) rfl aav (fun rec nj=>?_);obtain⟨D,hD⟩:∃D,D=w2.heap.size:=⟨_,rfl⟩;obtain⟨Mr,h0⟩:=SM (A:=RT.int .i64) (e:=3) (T:=32) (C:=216) (K:=EJ n ws bs bw bl) (st:=rec .ready none) EJ.keeps hM S jD ia hk (by omega);rw[←hD]at nj h0 ⊢;refine Spec.mono (Ch (M:=fun _=>True) (J:=fun p Ma w=>Ma=(fun _=>True)∧∃M' vo,AA (RT.int .i64) 3 32 216 (EJ n ws bs bw bl) M w0 mQ D (rec .ready none) vo (low ws p) M' w) (Jx:=fun _=>False) hb (fun p Ma w ⟨e,M',vo,h⟩=>by subst e;exact⟨h.k.l,h.k.s,h.k.t⟩) (fun p j Ma wr hJ hpj Tq gS=>?_) ⟨rfl,Mr,_,h0⟩) (fun _ w3 h3=>?_)
 ·obtain⟨_,M',vo,h⟩:=hJ;have hjn:=hb j Tq;have Iu:=h.k.s.nn;have Iw:=yw ws p;refine lA (ps:=[7]) (vs:=[.int .i64 (j:Int)]) nj h.r rfl (by decide) (ah (ai rfl rfl (ad ?_)));refine⟨rfl,h.r,?_⟩;have h4:=h.mT EJ.keeps (st':=rec .busy none);have s4:Step M' wr M' (wr.putObj (D+1) (.loop (rec .busy none))) (fun k=>k=D+1):=dH h.mr;generalize wr.putObj (D+1) _=w4 at h4 s4 ⊢;refine aY (ah (aH au rfl rfl rfl h4.o rfl (bz (v':=vo) rfl (ae rfl rfl ?_))));refine eh (A:=RT.int .i64) (hn:=by decide) (M:=M') au I3 (by decide) rfl rfl h4.lt (Ct.2 ⟨rfl,by show-9223372036854775808≤(j:Int)∧(j:Int)≤9223372036854775807;omega⟩) (.inr ⟨rfl,rfl⟩) (fun u5 w5 Bk s5=>?_);have h6:=h4.bh EJ.keeps s5;refine cR (M:=M') (base:=w0.heap.size) au I3 rfl rfl rfl rfl h6.own Bk (ao _ _) (by simp;omega) (by simp;omega) h6.S.size (fun v6 M6 w6 qW s6=>?_);obtain⟨⟨Zw,Zx⟩,H9⟩:=h6.grow EJ.keeps (by decide) s6 qW;refine bS (M:=M6) nY rfl rfl Zw rfl (by obtain⟨_,_,he,_⟩:=qW.isSlice;rw[he];rfl) Zx (fun w7 g7 s7=>?_);refine ad ?_;have h8:=(H9 s7 g7).mT EJ.keeps (st':=rec .ready none);exact⟨(H9 s7 g7).r,true,rfl,fun _=>⟨_,rfl,M6,v6,by rw[low,if_pos Tq,pW hpj gS];exact h8⟩,fun h=>by cases h⟩
 ·obtain⟨p,_,⟨_,M',vo,h⟩,kL⟩:=h3.resolve_right id;left;refine⟨h.r,?_⟩;have h5:=h.mT EJ.keeps (st':=rec .exhausted none);generalize w3.putObj (D+1) _=wE at h5 ⊢;refine aj (ah (aH au rfl rfl rfl h5.o rfl (bz (v':=vo) rfl (ai rfl rfl (ad (aL ?_))))));have sE:Step M' wE M' (wE.putObj D (.deferred none)) (fun k=>k=D):=dH h5.md;have hz:=h5.z;have hS:=h5.S.cC sE (fun k (hk:k=D)=>by omega)
  have ho:=h5.own.step sE (fun b hb (hn:b=D)=>by
   obtain⟨cs,hc⟩:=h5.own.isCells hb;rw[hn,h5.d]at hc;cases hc)
  have e:low ws n=low ws p:=by
   rcases Nat.le_total p n with h1|h1
   ·exact pW h1 (fun t h2 _=>kL t h2)
   ·exact(pW h1 (fun t h2 _=>by
     cases D8:bit ws t with
     |false=>rfl
     |true=>have:=hb t D8;omega)).symm
  exact A7 rfl rfl h5.d ⟨M',by rw[e];exact ho,hS⟩
theorem Cj {M:aB} {w0:World} {n:Nat} {ws:List Nat} {bs bw:Nat} (hM:Lt M w0) (h:fQ 161 165 n ws M w0 bs bw) (hb:∀j,bit ws j=true→j<n) (h0: ¬M 0) (HN:∃e fr,w0.heap[0]? =some (.cells (Fk.map fun(k:Nat)=>Value.int .u8 (k:Int)).toArray e fr)):Spec Tryz.prog 52 #[.pointer (some ⟨bs,0,none⟩)] w0 (fun v w=>((RT.int .i64).sl).V M w (low ws n) v∧Step M w0 M w aA):=
 (Ci (M:=fun b=>M b∧b≠bs∧b≠bw) (fun b hb=>hM b hb.1) ⟨trivial,trivial,h.ne,h.s,h.w,h.len,h.ok,h.nn⟩ hb ⟨fun h=>h.2.1 rfl,fun h=>h.2.2 rfl,fun h=>h0 h.1⟩ HN).mono fun v w ⟨M',ho,s⟩=>ho.OD Kb s (a7 _) hM (by have:=yw ws n;have:=h.nn;omega)
end Go.K
namespace Go.K
section
variable {P:Program} {r:Option Nat} {n:Nat} {L:Sl} {ds:List Deferred} {w:World} {K:Kt}
theorem T.Tt {σ:Type} {c:Code} (Lf:σ→Sl) (df:σ→List Deferred) (I:σ→World→Prop) (m:σ→Nat) (s0:σ) (hL:Sub (Lf s0) L) (hd:df s0=ds) (h0:I s0 w)
  (round:∀s w,I s w→T P r n c (Lf s) (df s) w (sc (fun L' kY w'=>∃s',kY=df s'∧Sub (Lf s') L'∧I s' w'∧m s'<m s) K)):T P r n (.loop c) L ds w K:=by
 classical
 refine⟨fun a ha=>?_⟩;subst hd
 let J:σ→Act→World→Prop:=fun s a w=>fV n a (Lf s) (df s)∧I s w
 let μ:Act→World→Nat:=fun a w=>if h:∃s,J s a w then m (Classical.choose (least m (J · a w) h))else 0
 refine wpIn_loop (fun a w=>∃s,J s a w) μ ⟨s0,ha.sub hL,h0⟩ ?_;rintro a w hJ;have hc:=Classical.choose_spec (least m (J · a w) hJ);have hμ:μ a w=m (Classical.choose (least m (J · a w) hJ)):=by simp only[μ];rw[dif_pos hJ]
 rw[hμ];generalize Classical.choose (least m (J · a w) hJ)=s at hc;obtain⟨⟨hs,hi⟩,_⟩:=hc;refine wpIn_mono ((round s w hi).run a hs) ?_;rintro e a' w' ⟨L',kY,lU,hK⟩
 cases e with
 |normal=>
  obtain⟨s',rfl,EL,fK,dC⟩:=hK;have Im:∃s,J s a' w':=⟨s',lU.sub EL,fK⟩;refine⟨Im,?_⟩;have h2:=(Classical.choose_spec (least m (J · a' w') Im)).2 s' ⟨lU.sub EL,fK⟩;simp only[μ];rw[dif_pos Im];omega
 |exit id=>exact⟨L',kY,lU,hK⟩
 |goto id=>exact⟨L',kY,lU,hK⟩
 |ret=>exact⟨L',kY,lU,hK⟩
 |panic c=>exact⟨L',kY,lU,hK⟩
 |outgrown=>exact⟨L',kY,lU,hK⟩
structure fC (M:aB) (w:World) (base:Nat) (Ds:List Nat):Prop where
 nd:Ds.Nodup
 at_:∀D∈Ds,w.heap[D]? =some (.deferred (some []))∧M D∧base≤D
theorem fC.nil (M:aB) (w:World) (base:Nat):fC M w base []:=⟨List.Pairwise.nil,fun D h=>absurd h (List.not_mem_nil)⟩
theorem fC.cons {M:aB} {base D:Nat} {Ds:List Nat} (h:fC M w base Ds) (h1:D∉Ds) (h2:w.heap[D]? =some (.deferred (some []))) (h3:M D) (h4:base≤D):fC M w base (D::Ds):=
 ⟨rZ.2 ⟨h1,h.nd⟩,fun E hE=>by
  rcases du.1 hE with rfl|hE
  ·exact⟨h2,h3,h4⟩
  ·exact h.at_ E hE⟩
theorem fC.step {M M' N:aB} {w':World} {base:Nat} {Ds:List Nat} (h:fC M w base Ds) (s:Step M w M' w' N) (hN:∀b,N b→w.heap[b]? ≠some (.deferred (some []))):fC M' w' base Ds:=
 ⟨h.nd,fun D hD=>by
  obtain⟨h1,h2,h3⟩:=h.at_ D hD;exact⟨s.bJ h1 (fun hn=>hN D hn h1),(s.mem _ (ak h1)).2 h2,h3⟩⟩
theorem fC.run {M:aB} {base:Nat}:∀{Ds:List Nat} {w:World},fC M w base Ds→∃w',Marks P (Ds.map mark) w w'∧Step M w M w' (fun b=>M b∧base≤b∧w.heap[b]? =some (.deferred (some [])))
 |[],w,_=>⟨w,rfl,(an _ _).ca (fun _ h=>h.elim) (fun _ h=>h.1)⟩
 |D::Ds,w,h=>by
  obtain⟨h1,h2,h3⟩:=h.at_ D (by simp);have mZ:=rZ.1 h.nd;have sE:Step M w M (w.putObj D (.deferred none)) (fun k=>k=D):=⟨fun h k hk=>by simpa[World.putObj]using h k hk,rfl,rfl,rfl,by simp[World.putObj],fun _ _=>Iff.rfl,fun k _ hn=>World.putObj_heap_other (fun e=>hn e),fun k hk=>by subst hk;exact h2⟩
  have h':fC M (w.putObj D (.deferred none)) base Ds:=⟨mZ.2,fun E hE=>by
   obtain⟨q1,q2,q3⟩:=h.at_ E (by simp[hE]);exact⟨sE.bJ q1 (fun(e:E=D)=>mZ.1 (by rw[←e];exact hE)),q2,q3⟩⟩
  obtain⟨w',hm,s⟩:=fC.run h';refine⟨w',⟨D,_,rfl,run_takeDeferred h1,hm⟩,(sE.ca (fun b hb=>by subst hb;exact⟨h2,h3,h1⟩) (fun b hb=>hb.1)).trans s (fun b hb ⟨q1,q2,q3⟩=>?_)⟩;by_cases e:b=D
  ·subst e;exact⟨h2,h3,h1⟩
  ·exact⟨q1,q2,by rw[←sE.same b hb e];exact q3⟩
theorem OF {fn:Func} {Q:Value→World→Prop} {M:aB} {base t:Nat} {v:Value} {Ds:List Nat} (hr:fn.results= #[.tmp t]) (hv:lk L t=some v) (hD:fC M w base Ds) (h:∀w',Step M w M w' (fun b=>M b∧base≤b∧w.heap[b]? =some (.deferred (some [])))→Q v w'):
  yW P fn Q .ret L (Ds.map mark) w:=by
 obtain⟨w',hm,s⟩:=hD.run (P:=P);exact⟨w',hm,fun a ha=>⟨v,by simp[results,hr,ha t v hv],h w' s⟩⟩
end
end Go.K
namespace Go.K
open Go.Proofs
set_option maxRecDepth 10000
structure HQ (X K:aB→World→Prop) (M:aB) (w0:World) (Ds:List Nat) (D:Nat) (st:Loop) (M':aB) (w:World):Prop where
 lt:Lt M' w
 S:Step M w0 M' w aA
 r:w.heap[D+1]? =some (.loop st)
 mr:M' (D+1)
 d:w.heap[D]? =some (.deferred (some []))
 md:M' D
 x:X M' w
 k:K M' w
 ms:fC M' w w0.heap.size Ds
 z:w0.heap.size≤D
 dn:D∉Ds
section
variable {X X' K:aB→World→Prop} {M M1 M2 N:aB} {w0 w w':World} {Ds:List Nat} {D:Nat} {st:Loop} {C:TypeId}
def Dd (C:TypeId) (X:aB→World→Prop):Prop:=∀{M w M' w' N},X M w→Step M w M' w' N→(∀b,N b→∀cs t fr,w.heap[b]? =some (.cells cs t fr)→t=C)→X M' w'
theorem HQ.Tu (hK:∀{M w M' w'},K M w→Le M w M' w'→K M' w') (h:HQ X K M w0 Ds D st M1 w) (s:Step M1 w M2 w' N) (hb:∀b,N b→w0.heap.size≤b) (hc:∀b,N b→b<w.heap.size→∃cs t fr,w.heap[b]? =some (.cells cs t fr)) (x:X' M2 w'):HQ X' K M w0 Ds D st M2 w':=by
 have n1: ¬N (D+1):=fun hn=>by obtain⟨cs,t,fr,hq⟩:=hc _ hn (ak h.r);rw[h.r]at hq;cases hq
 have n2: ¬N D:=fun hn=>by obtain⟨cs,t,fr,hq⟩:=hc _ hn (ak h.d);rw[h.d]at hq;cases hq
 exact⟨s.lt h.lt,h.S.cC s hb,s.bJ h.r n1,(s.mem _ (ak h.r)).2 h.mr,s.bJ h.d n2,(s.mem _ (ak h.d)).2 h.md,x,hK h.k s.le,h.ms.step s (fun b hn hq=>by obtain⟨cs,t,fr,hq'⟩:=hc b hn (ak hq);rw[hq]at hq';cases hq'),h.z,h.dn⟩
theorem HQ.HC (hK:∀{M w M' w'},K M w→Le M w M' w'→K M' w') (hX:Dd C X) (h:HQ X K M w0 Ds D st M1 w) (s:Step M1 w M2 w' N) (hN:∀b,N b→w0.heap.size≤b∧(b<w.heap.size→∃cs,w.heap[b]? =some (.cells cs C (0,0)))):HQ X K M w0 Ds D st M2 w':=
 h.Tu hK s (fun b hb=>(hN b hb).1) (fun b hb hl=>by obtain⟨cs,hc⟩:=(hN b hb).2 hl;exact⟨_,_,_,hc⟩) (hX h.x s (fun b hb cs t fr hc=>by
  obtain⟨Ib,yI⟩:=(hN b hb).2 (ak hc);rw[hc]at yI;injection yI with yI;injection yI))
theorem HQ.mT (hK:∀{M w M' w'},K M w→Le M w M' w'→K M' w') (hX:Dd C X) {st':Loop} (h:HQ X K M w0 Ds D st M1 w):HQ X K M w0 Ds D st' M1 (w.putObj (D+1) (.loop st')):=by
 have s:Step M1 w M1 (w.putObj (D+1) (.loop st')) (fun k=>k=D+1):=dH h.mr;have z:=h.z;refine⟨s.lt h.lt,h.S.cC s (fun k (hk:k=D+1)=>by omega),World.putObj_heap_same (ak h.r),h.mr,s.bJ h.d (fun(hn:D=D+1)=>by omega),h.md,hX h.x s (fun b (hb:b=D+1) cs t fr hc=>?_),hK h.k s.le,h.ms.step s (fun b (hb:b=D+1) hc=>?_),h.z,h.dn⟩
 ·rw[hb,h.r]at hc;cases hc
 ·rw[hb,h.r]at hc;cases hc
end
theorem aaw {X K:aB→World→Prop} {C:TypeId} {M M1:aB} {w0 w:World} {Ds:List Nat} {st:Loop} (hK:∀{M w M' w'},K M w→Le M w M' w'→K M' w') (hX:Dd C X) (hM:Lt M1 w) (S:Step M w0 M1 w aA) (hx:X M1 w) (hk:K M1 w) (hd:fC M1 w w0.heap.size Ds):
  ∃M',HQ X K M w0 Ds w.heap.size st M' ((w.alloc (.deferred (some []))).alloc (.loop st)):=by
 have sA:Step M1 w (ins M1 w.heap.size) (w.alloc (.deferred (some []))) aA:=(dg M1 w _).own (a7 _) (by simp);have sB:Step (ins M1 w.heap.size) (w.alloc (.deferred (some []))) (ins (ins M1 w.heap.size) (w.heap.size+1)) ((w.alloc (.deferred (some []))).alloc (.loop st)) aA:=(dg _ _ _).own (by simp) (by simp);have hD:(w.alloc (.deferred (some []))).heap[w.heap.size]? =some (.deferred (some [])):=cz w _;have hR:((w.alloc (.deferred (some []))).alloc (.loop st)).heap[w.heap.size+1]? =some (.loop st):=by have:=cz (w.alloc (.deferred (some []))) (.loop st);rwa [World.size_alloc]at this
 exact⟨_,sB.lt (sA.lt hM),(S.ax sA).ax sB,hR,.inl rfl,sB.aM hD,.inr (.inl rfl),hX (hX hx sA (fun b h=>h.elim)) sB (fun b h=>h.elim),hK (hK hk sA.le) sB.le,(hd.step sA (fun b h=>h.elim)).step sB (fun b h=>h.elim),S.size,fun hn=>by have:=ak (hd.at_ _ hn).1;omega⟩
def lj (n b7 os ow:Nat) (P:Nat→Bool) (M:aB) (w:World):Prop:=w.heap[b7]? =some (.cells #[.pointer (some ⟨os,0,none⟩)] 88 (0,0))∧M b7∧∃ws,fQ 161 165 n ws M w os ow∧∀j,bit ws j=P j
theorem lj.kept {n b7 os ow:Nat} {P:Nat→Bool}:Dd 216 (lj n b7 os ow P):=fun⟨g,m,ws,hs,hp⟩ s hN=>by
 refine⟨s.bJ g (fun hn=>absurd (hN _ hn _ _ _ g) (by decide)),(s.mem _ (ak g)).2 m,ws,hs.step s (fun hn=>absurd (hN _ hn _ _ _ hs.s) (by decide)) (fun hn=>absurd (hN _ hn _ _ _ hs.w) (by decide)),hp⟩
theorem lj.eq {n b7 os ow:Nat} {P Q:Nat→Bool} {M:aB} {w:World} (h:lj n b7 os ow P M w) (e:∀j,P j=Q j):lj n b7 os ow Q M w:=⟨h.1,h.2.1,h.2.2.choose,h.2.2.choose_spec.1,fun j=>(h.2.2.choose_spec.2 j).trans (e j)⟩
theorem lj.cut {n b7 os ow:Nat} {P:Nat→Bool} {M:aB} {w w':World} {qR:List Nat} {i:Int} (h:lj n b7 os ow P M w) (hs:fQ 161 165 n qR M w' os ow) (s:Step M w M w' (fun b=>b=ow)) (how:∃ws,w.heap[ow]? =some (.cells (l6 ws) 165 (0,0))) (hb:∀j:Nat,bit qR j=(P j&&decide ((j:Int)≠i))):lj n b7 os ow (fun j=>P j&&decide ((j:Int)≠i)) M w':=by
 obtain⟨g,m,_⟩:=h;obtain⟨ws,hw⟩:=how;exact⟨s.bJ g (fun(e:b7=ow)=>by rw[e,hw]at g;injection g with g;injection g with _ g;exact absurd g (by decide)),m,qR,hs,hb⟩
end Go.K
namespace Go.K
open Go.Proofs
namespace TKLiveB
theorem wU:TI Tryz.prog 51 (.agg #[(.string ⟨#[]⟩),(.string ⟨#[]⟩),(.int .i64 0)]) 3 40:=by unfold TI;kernel_rfl
theorem I88:TI Tryz.prog 88 (.pointer none) 1 8:=by unfold TI;kernel_rfl
theorem ZG:Enters Tryz.prog 67:=enters Tryz.func67 rfl (by decide)
theorem Uo:Enters Tryz.prog 70:=enters Tryz.func70 rfl (by decide)
theorem Zt:Enters Tryz.prog 72:=enters Tryz.func72 rfl (by decide)
theorem aax:Enters Tryz.prog 101:=enters Tryz.func101 rfl (by decide)
theorem Tv:Enters Tryz.prog 102:=enters Tryz.func102 rfl (by decide)
theorem Oq:Enters Tryz.prog 122:=enters Tryz.func122 rfl (by decide)
end TKLiveB
open TKLiveB
set_option maxRecDepth 10000
abbrev nQ (s:Se) (ls:List (List Po)) (e:Er):List Int:=ju (lg s.2.2.1 ls (cL e.1)) s.2.1 e.2
def o0 (n:Nat) (s:Se) (ls:List (List Po)) (upto:Int) (es:List Er) (j:Nat):Bool:=decide (j<n)&&decide (rF s.2.1 j<upto)&& !(es.any fun e=>decide (e.2<upto)&&decide ((j:Int)∈nQ s ls e))
theorem xc {n:Nat} {s:Se} {ls:List (List Po)} {upto:Int} {es:List Er} {e:Er} (j:Nat):o0 n s ls upto (es++[e]) j=(o0 n s ls upto es j&& !(decide (e.2<upto)&&decide ((j:Int)∈nQ s ls e))):=by
 unfold o0;rw[List.any_append];simp only[List.any_cons,List.any_nil,Bool.or_false,Bool.not_or,Bool.and_assoc]
theorem De {n:Nat} {s:Se} {ls:List (List Po)} {upto:Int} {es:List Er} {j:Nat} (h:o0 n s ls upto es j=true):j<n:=by
 unfold o0 at h;simp only[bD,decide_eq_true_eq]at h;exact h.1.1
def rI (n:Nat) (s:Se) (upto:Int) (i j:Nat):Bool:=decide (j<n)&&(decide (i≤j)||decide (rF s.2.1 j<upto))
theorem Kc {n:Nat} {s:Se} {upto:Int} {i:Nat} (h:upto≤rF s.2.1 (i:Int)) (j:Nat):(rI n s upto i j&&decide ((j:Int)≠(i:Int)))=rI n s upto (i+1) j:=by
 unfold rI;by_cases e:j=i
 ·subst e;rw[decide_eq_false (show¬(j:Int)≠(j:Int)from fun h=>h rfl),decide_eq_false (show¬j+1≤j by omega),decide_eq_false (show¬rF s.2.1 (j:Int)<upto by omega)];simp
 ·rw[decide_eq_true (show(j:Int)≠(i:Int) by omega),iz];congr 2;exact decide_eq_decide.2 (by omega)
theorem HR {n:Nat} {s:Se} {upto:Int} {i:Nat} (h: ¬upto≤rF s.2.1 (i:Int)) (j:Nat):rI n s upto i j=rI n s upto (i+1) j:=by
 unfold rI;by_cases e:j=i
 ·subst e;rw[decide_eq_true (show rF s.2.1 (j:Int)<upto by omega)];simp
 ·congr 2;exact decide_eq_decide.2 (by omega)
theorem Kd {n:Nat} {s:Se} {ls:List (List Po)} {upto:Int} (j:Nat):rI n s upto n j=o0 n s ls upto [] j:=by
 unfold rI o0;by_cases h:j<n
 ·rw[decide_eq_false (show¬n≤j by omega)];simp
 ·rw[decide_eq_false h];simp
abbrev OG (bs:Nat) (v0:Value) (s:Se) (u:Value) (e:Er):aB→World→Prop:=fun M w=>w.heap[bs]? =some (.cells #[v0] 25 (0,0))∧¬M bs∧cp RT.se M w v0 s∧cp RT.er M w u e
abbrev AR (bs:Nat) (v0:Value) (s:Se) (u:Value) (e:Er) (es:List Er) (ve:Value):aB→World→Prop:=fun M w=>OG bs v0 s u e M w∧(RT.er.sl).V M w es ve
theorem im {bs:Nat} {v0 u ve:Value} {s:Se} {e:Er} {es:List Er} {M M':aB} {w w':World} (h:AR bs v0 s u e es ve M w) (l:Le M w M' w'):AR bs v0 s u e es ve M' w':=⟨nM h.1 l,h.2.le l⟩
def vD (n:Nat) (s:Se) (ls:List (List Po)) (upto:Int) (es:List Er) (e:Er) (i j:Nat):Bool:=o0 n s ls upto es j&& !decide ((j:Int)∈(nQ s ls e).take i)
theorem Ke {n:Nat} {s:Se} {ls:List (List Po)} {upto:Int} {es:List Er} {e:Er} {i:Nat} {x:Int} (h:(nQ s ls e)[i]? =some x) (j:Nat):(vD n s ls upto es e i j&&decide ((j:Int)≠x))=vD n s ls upto es e (i+1) j:=by
 unfold vD;rw[bN,h,ck,Bool.and_assoc];congr 1;by_cases h1:(j:Int)∈(nQ s ls e).take i<;>by_cases h2:(j:Int)=x<;>simp[h1,h2]
theorem Kf {n:Nat} {s:Se} {ls:List (List Po)} {upto:Int} {es:List Er} {e:Er} (he:e.2<upto) (j:Nat):vD n s ls upto es e (nQ s ls e).length j=o0 n s ls upto (es++[e]) j:=by
 unfold vD;rw[xc,aW (a7 _),decide_eq_true he,cZ]
theorem OH {n:Nat} {s:Se} {ls:List (List Po)} {upto:Int} {es:List Er} {e:Er} {i j:Nat} (h:vD n s ls upto es e i j=true):j<n:=by
 unfold vD at h;rw[bD]at h;exact De h.1
theorem Em {M:aB} {s:Se} {ls:List (List Po)} {es:List Er} {upto:Int} {v0 ve:Value} (w0:World) (hM:Lt M w0) (hs:cp RT.se M w0 v0 s) (ym:x9 s.2.2.1) (EC:s.2.2.2=ls.map hU) (C9:s.2.2.1.length=ls.length) (hn:s.1.length≤1000000) (he:(RT.er.sl).V M w0 es ve) (so:es.length≤1000000) (yH:∀e∈es,J5 (lg s.2.2.1 ls (cL e.1))):
  Spec Tryz.prog 48 #[v0,ve,.int .i64 upto] w0 (fun v w=>∃os ow ws M',v= .pointer (some ⟨os,0,none⟩)∧w0.heap.size≤os∧w0.heap.size≤ow∧Step M w0 M' w aA∧fQ 161 165 s.1.length ws M' w os ow∧∀j,bit ws j=o0 s.1.length s ls upto es j):=by
 have iL:=hM;refine nk (args:=[_,_,_]) (fn:=Tryz.f48) Tryz.func48 rfl (n:=48) Tryz.ntmps48 ?_;have S:Step M w0 M w0 aA:=(an _ _).ca (fun _ h=>h.elim) (fun _ h=>h.elim);refine aj (ah (ai rfl rfl (ad (aj (ah (ae rfl rfl ?_))))));refine aQ rfl rfl ZG (wO _ hs) (fun r wc hc=>?_);obtain⟨rfl,hw⟩:=hc;obtain rfl:w0=wc:=hw.symm;refine aQ rfl rfl aax (El (M:=M) (n:=s.1.length) (by omega)) (fun r2 w2 hc=>?_);obtain⟨os,ow,ws,M2,rfl,z1,z2,s2,kJ,uu⟩:=hc;replace hs:=hs.le (by decide) s2.le;replace he:=he.le s2.le;replace hM:=s2.lt hM;have:=S.size;replace S:=S.ax s2;refine fh M2 I88 rfl (fun jO xQ QY QZ gu s1_3=>?_);obtain⟨jt,nE⟩:∃M',M'=ins M2 jO:=⟨_,rfl⟩;rw[←nE]at s1_3;have fq:jt jO:=by rw[nE];exact .inl rfl
 change xQ.heap[jO]? =some (.cells #[.pointer none] _ _)at gu;replace hs:=hs.le (by decide) s1_3.le;replace he:=he.le s1_3.le;replace hM:=s1_3.lt hM;have:=S.size;replace S:=S.ax s1_3;refine bS (M:=jt) I88 rfl rfl gu rfl (rfl) fq (fun I2 BZ hY=>?_)
 try simp only[List.setIfInBounds_toArray,List.set_cons_zero,List.set_cons_succ]at BZ
 have:=ak gu;replace fq:=(hY.mem _ this).2 fq;replace hs:=hs.le (by decide) hY.le;replace he:=he.le hY.le;replace hM:=hY.lt hM;have:=S.size;replace S:=S.trans hY (fun k hk h=>by have h:_=_:=h;subst h;first|(exfalso;omega)|(show _≤_;omega)|exact⟨by first|omega|assumption,(S.mem _ hk).1 ((hY.mem _ (ak gu)).1 fq)⟩|exact .inl rfl|exact .inr rfl|exact .inr (.inl rfl)|exact .inr (.inr rfl)|exact rfl);have qV:=BZ;clear gu;have gu:=qV;clear qV;refine ad (aj (aj (ah (ae rfl rfl ?_))));refine aQ rfl rfl ZG (wO _ hs) (fun r wc hc=>?_);obtain⟨rfl,rfl⟩:=hc;refine ae rfl rfl (ad (aY ?_));refine dr (σ:=Nat) (fun i=>[(0,v0),(1,ve),(2,.int .i64 upto),(7,.pointer (some ⟨jO,0,none⟩)),(16,.int .i64 (s.1.length:Int)),(17,.int .i64 (i:Int))]) (fun i w=>∃M1,Lt M1 w∧Step M w0 M1 w aA∧lj s.1.length jO os ow (rI s.1.length s upto i) M1 w∧cp RT.se M1 w v0 s∧(RT.er.sl).V M1 w es ve∧i≤s.1.length) (fun i=>s.1.length-i) 0 (.cons rfl (.cons rfl (.cons rfl (.cons rfl (.cons rfl (.cons rfl .nil)))))) ?_ ?_
 ·exact⟨_,hM,S,⟨gu,fq,ws,(kJ.step s1_3 (fun h=>h) (fun h=>h)).step hY (fun(h:os=jO)=>by have:=ak kJ.s;omega) (fun(h:ow=jO)=>by have:=ak kJ.w;omega),fun j=>by rw[uu j];unfold rI;simp⟩,hs,he,bB _⟩
 ·clear S hs he hM gu fq;rintro i w ⟨M1,hM,S,hx,hs,he,hi⟩;refine aj (ah (b4 rfl rfl rfl (ad (aj ?_))));refine bH rfl (fun c3=>?_) (fun c3=>?_)
  ·refine aS (aj (aY (aj (ah (ae rfl rfl (ai rfl rfl (ad (aj (ah (ae rfl rfl (ae rfl rfl ?_)))))))))));refine aQ rfl rfl Uo (wR _ hs) (fun r wc hc=>?_);obtain⟨rfl,rfl⟩:=hc;refine ae rfl rfl (dz rfl rfl rfl (ad ?_));refine bH rfl (fun c5=>?_) (fun c5=>?_)
   ·refine ah ?_;obtain⟨g7,m7,wsi,kJ,uu⟩:=hx;refine aH Tryz.underlying88 rfl rfl rfl g7 rfl (bz (v':= .pointer (some ⟨os,0,none⟩)) rfl (ae rfl rfl ?_));refine aQ rfl rfl Tv (AP kJ (i:=(i:Int)) (fun j hj=>by rw[uu j]at hj;unfold rI at hj;simp only[bD,decide_eq_true_eq]at hj;exact hj.1)) (fun r6 w6 hc=>?_);obtain⟨qR,HS,Ev,s6⟩:=hc;have hx:=lj.cut (P:=rI s.1.length s upto i) ⟨g7,m7,wsi,kJ,uu⟩ HS s6 ⟨_,kJ.w⟩ (fun j=>by rw[Ev j,uu j]);replace hs:=hs.le (by decide) s6.le;replace he:=he.le s6.le;replace S:=S.cC s6 (fun b (hb:b=ow)=>by omega);replace hM:=s6.lt hM;refine ad (ah (bu rfl rfl rfl (by omega) (ae rfl rfl (ad ?_))));refine⟨rfl,i+1,(.cons rfl (.cons rfl (.cons rfl (.cons rfl (.cons rfl (.cons rfl .nil)))))),?_,?_⟩
    ·exact⟨M1,hM,S,hx.eq (Kc c5),hs,he,by omega⟩
    ·omega
   ·refine aS (ah (bu rfl rfl rfl (by omega) (ae rfl rfl (ad ?_))));refine⟨rfl,i+1,(.cons rfl (.cons rfl (.cons rfl (.cons rfl (.cons rfl (.cons rfl .nil)))))),?_,?_⟩
    ·exact⟨M1,hM,S,hx.eq (HR c5),hs,he,by omega⟩
    ·omega
  ·refine cG (aj (aj (ah (ae rfl rfl (bM iP rfl he rfl (ae rfl rfl (ad (aY ?_))))))));obtain rfl:i=s.1.length:=by omega
   replace hx:=hx.eq (Kd (ls:=ls));refine T.Tt (σ:=Nat×List Nat) (fun q=>[(0,v0),(2,.int .i64 upto),(7,.pointer (some ⟨jO,0,none⟩)),(29,ve),(30,.int .i64 (es.length:Int)),(31,.int .i64 (q.1:Int))]) (fun q=>q.2.map mark) (fun q w=>∃M1,Lt M1 w∧Step M w0 M1 w aA∧lj s.1.length jO os ow (o0 s.1.length s ls upto (es.take q.1)) M1 w∧cp RT.se M1 w v0 s∧(RT.er.sl).V M1 w es ve∧fC M1 w w0.heap.size q.2∧q.1≤es.length) (fun q=>es.length-q.1) (0,[]) (.cons rfl (.cons rfl (.cons rfl (.cons rfl (.cons rfl (.cons rfl .nil)))))) rfl ?_ ?_
   ·exact⟨_,hM,S,hx,hs,he,fC.nil _ _ _,bB _⟩
   ·clear S hs he hM hx;rintro⟨k,Ds⟩ w ⟨M1,hM,S,hx,hs,he,Lz,hk⟩;dsimp only at hx Lz hk ⊢;refine aj (ah (b4 rfl rfl rfl (ad (aj ?_))));refine bH rfl (fun c9=>?_) (fun c9=>?_)
    ·refine aS (aj (aY (aj (ah ?_))));obtain⟨e,kZ⟩:∃e,es[k]? =some e:=⟨_,aD (by omega)⟩;refine cK (M:=M1) iP wU rfl rfl rfl he (ao _ _) (by omega) (fun ahu e' kA Tx=>?_);rw[aw]at kA;obtain rfl:=bp (kZ.symm.trans kA);refine b5 (M:=M1) (A:=RT.er) fE rfl wU (by decide) rfl rfl rfl Tx (ao _ _) (fun ahv hve=>?_);have OI:=hve;obtain⟨rfl,⟨aaz,aaA⟩,ahw⟩:=B9 OI;refine mz (A:=RT.er) (M:=M1) wU rfl rfl rfl rfl rfl (by assumption) (ao _ _) hM (fun Sh Si qC pR Sj=>?_);replace hs:=hs.le (by decide) pR.le;replace he:=he.le pR.le;replace hM:=pR.lt hM;have:=S.size;replace S:=S.ax pR;refine ad (aj (aj (ah ?_)));replace hx:=lj.kept hx pR (fun b h=>h.elim);replace Lz:=Lz.step pR (fun b h=>h.elim);refine aF (M:=M1) (A:=RT.er) (B:=RT.int .i64) fE rfl rfl I3 (by decide) Pm rfl rfl (by decide) qC (ao _ _) (fun ahx Ty=>?_);refine bV (M:=M1) ar rfl rfl Ty (ao _ _) (fun Uu=>?_);refine bz (v':= .int .i64 e.2) rfl (ae rfl rfl (dz rfl rfl rfl (ad ?_)));refine bH rfl (fun Mh=>?_) (fun Mh=>?_)
     ·refine cG (ah (bu rfl rfl rfl (by omega) (ae rfl rfl (ad ?_))));refine⟨(k+1,Ds),rfl,(.cons rfl (.cons rfl (.cons rfl (.cons rfl (.cons rfl (.cons rfl .nil)))))),?_,?_⟩
      ·exact⟨_,hM,S,hx.eq (fun j=>by dsimp only;rw[bN,kZ,ck,xc,decide_eq_false (show¬e.2<upto by omega)];simp),hs,he,Lz,by dsimp only;omega⟩
      ·dsimp only;omega
     ·refine aS (aj (ah (ae rfl rfl ?_)));refine b5 (M:=M1) (A:=RT.er) fE rfl wU (by decide) rfl rfl rfl qC (ao _ _) (fun ahy Tz=>?_);refine aQ rfl rfl Zt (ud _ hM hs Tz) (fun r12 Ja hc=>?_);obtain⟨bs,u,rfl,Gj,hu,Ui,n0⟩:=hc;have Zy:AR bs v0 s u e es ve M1 Ja:=⟨⟨Gj,fun h=>by have:=hM _ h;omega,hs.le (by decide) n0.le,hu⟩,he.le n0.le⟩;replace hx:=lj.kept hx n0 (fun b h=>h.elim);replace Lz:=Lz.step n0 (fun b h=>h.elim);replace hs:=hs.le (by decide) n0.le;replace he:=he.le n0.le;replace qC:=qC.le (by decide) n0.le;replace hM:=n0.lt hM;have:=S.size;replace S:=S.ax n0;refine ad (aY ?_);refine T.range (gf:=122) (lb:=[.pointer (some ⟨bs,0,none⟩),u].toArray) rfl Oq (fun rec nj=>?_);obtain⟨D,hD⟩:∃D,D=Ja.heap.size:=⟨_,rfl⟩;obtain⟨Mr,h0⟩:=aaw (X:=lj s.1.length jO os ow (vD s.1.length s ls upto (es.take k) e 0)) (K:=AR bs v0 s u e es ve) (C:=216) (st:=rec .ready none) im lj.kept hM S (hx.eq (fun j=>by unfold vD;simp)) Zy Lz;rw[←hD]at nj h0 ⊢;refine Spec.mono (rn (ls:=ls) (u:=u) ym EC C9 (yH e (aI kZ)) aaz aaA (M:=Mr) (J:=fun i M' w=>HQ (lj s.1.length jO os ow (vD s.1.length s ls upto (es.take k) e i)) (AR bs v0 s u e es ve) M w0 Ds D (rec .ready none) M' w) (Jx:=fun _=>False) _ (fun i M' w h=>⟨h.lt,h.k.1⟩) (fun i M' w M2 w2 N h s hN=>h.HC im lj.kept s (fun b hb=>⟨by have h1:=(hN b hb).1;have h2:=h.z;simp at h1;omega,(hN b hb).2⟩)) (fun i M' wr x h Ko=>?_) h0) (fun _ w3 h3=>?_)
      ·refine lA (ps:=[42]) (vs:=[.int .i64 x]) nj h.r rfl (by decide) (ah (ai rfl rfl (ad ?_)));refine⟨rfl,h.r,?_⟩;have h4:=h.mT im lj.kept (st':=rec .busy none);have s4:Step M' wr M' (wr.putObj (D+1) (.loop (rec .busy none))) (fun k=>k=D+1):=dH h.mr;generalize wr.putObj (D+1) _=w4 at h4 s4 ⊢;refine aY (ah ?_);obtain⟨g7,m7,wsi,kJ,uu⟩:=h4.x;refine aH Tryz.underlying88 rfl rfl rfl g7 rfl (bz (v':= .pointer (some ⟨os,0,none⟩)) rfl (ae rfl rfl ?_));refine aQ rfl rfl Tv (AP kJ (i:=x) (fun j hj=>by rw[uu j]at hj;exact OH hj)) (fun r5 w5 hc=>?_);obtain⟨qR,HS,Ev,s5⟩:=hc;refine ad ?_;have x5:=lj.cut h4.x HS s5 ⟨_,kJ.w⟩ (fun j=>by rw[Ev j,uu j]);have h5:=h4.Tu im s5 (fun b (hb:b=ow)=>by omega) (fun b (hb:b=ow) _=>by rw[hb];exact⟨_,_,_,kJ.w⟩) (x5.eq (Ke Ko));have h8:=h5.mT im lj.kept (st':=rec .ready none);have s8:=dH (w:=w5) (o:= .loop (rec .ready none)) h5.mr;refine⟨h5.r,true,rfl,fun _=>⟨M',fun b=>b=D+1∨b=ow,h8,((s4.ca (fun b hb=> .inl hb) (fun b hb=>?_)).trans s5 (fun b _ hb=> .inr hb)).trans s8 (fun b _ hb=> .inl hb),fun b hb cs hc=>?_⟩,fun h=>by cases h⟩
       ·obtain⟨_,_,wz,hz,_⟩:=h.x;rcases hb with rfl|rfl
        ·exact h.mr
        ·exact hz.mw
       ·obtain⟨_,_,wz,hz,_⟩:=h.x;rcases hb with rfl|rfl
        ·rw[h.r]at hc;cases hc
        ·rw[hz.w]at hc;injection hc with hc;injection hc with _ hc;exact absurd hc (by decide)
      ·obtain⟨M',h⟩:=h3.resolve_right id;left;refine⟨h.r,?_⟩;have h5:=h.mT im lj.kept (st':=rec .exhausted none);generalize w3.putObj (D+1) _=wE at h5 ⊢;refine ah (bu rfl rfl rfl (by omega) (ae rfl rfl (ad ?_)));refine⟨(k+1,D::Ds),rfl,(.cons rfl (.cons rfl (.cons rfl (.cons rfl (.cons rfl (.cons rfl .nil)))))),?_,?_⟩
       ·exact⟨_,h5.lt,h5.S,h5.x.eq (fun j=>by dsimp only;rw[bN,kZ,ck];exact Kf (by omega) j),h5.k.1.2.2.1,h5.k.2,h5.ms.cons h5.dn h5.d h5.md h5.z,by dsimp only;omega⟩
       ·dsimp only;omega
    ·refine cG (aj (ah ?_));obtain⟨g7,m7,wsf,kJ,TA⟩:=hx;refine aH Tryz.underlying88 rfl rfl rfl g7 rfl (bz (v':= .pointer (some ⟨os,0,none⟩)) rfl (ai rfl rfl (ad (aL ?_))));exact OF rfl rfl Lz (fun w' s'=>⟨os,ow,wsf,M1,rfl,by omega,by omega,S.cC s' (fun b hb=>hb.2.1),kJ.step s' (fun hn=>by have:=hn.2.2;rw[kJ.s]at this;cases this) (fun hn=>by have:=hn.2.2;rw[kJ.w]at this;cases this),fun j=>by rw[TA j,aW (by omega)]⟩)
end Go.K
namespace Go.K
open Go.Proofs
set_option maxRecDepth 10000
theorem HT {r:Int} (h:1≤r):∀x∈Lib.encodeRuneZ r,1≤x∧x≤255:=by
 intro x hx;unfold Lib.encodeRuneZ at hx
 split at hx
 ·simp at hx;omega
 ·split at hx
  ·simp at hx;omega
  ·split at hx
   ·simp at hx;omega
   ·split at hx
    ·simp at hx;omega
    ·simp at hx;omega
theorem OJ {r:Int} (h:1≤r):(0:UInt8)∉Lib.encodeRune r:=fun hm=>by
 unfold Lib.encodeRune at hm;obtain⟨x,hx,Pu⟩:=bZ.1 hm;obtain⟨h1,h2⟩:=HT h x hx;have:=congrArg UInt8.toNat Pu;simp at this;omega
theorem Kg {c:Int} (h:1≤c):1≤oP c:=by unfold oP;split<;>omega
theorem HU {l:List Int} (h:∀c∈l,1≤c):(0:UInt8)∉ik l:=fun hm=>by
 unfold ik at hm;obtain⟨c,hc,hx⟩:=List.mem_flatMap.1 hm;exact OJ (Kg (h c hc)) hx
theorem Eo {c:Int} (h:eC c=true∨k5 c=true):1≤ez c:=by
 have:1≤c:=by
  rcases h with h|h
  ·unfold eC at h;simp at h;omega
  ·unfold k5 at h;simp at h;omega
 unfold ez;split<;>omega
theorem Kh (l:List Int):∀p:List Int×List (List UInt8),(∀c∈p.1,1≤c)→(∀w∈p.2,(0:UInt8)∉w)→(∀c∈(l.foldl ek p).1,1≤c)∧∀w∈(l.foldl ek p).2,(0:UInt8)∉w:=by
 induction l with
 |nil=>intro p h1 h2;exact⟨h1,h2⟩
 |cons c l ih=>
  intro p h1 h2;rw[List.foldl_cons];refine ih _ ?_ ?_
  ·unfold ek
   split
   ·rename_i hc
    intro x hx;rcases cY.1 hx with hx|hx
    ·exact h1 x hx
    ·rw[cw.1 hx];exact Eo hc
   ·split<;>(intro x hx;cases hx)
  ·unfold ek
   split
   ·exact h2
   ·split
    ·intro w hw;rcases cY.1 hw with hw|hw
     ·exact h2 w hw
     ·rw[cw.1 hw];exact HU h1
    ·exact h2
theorem HV (l:List UInt8):∀w∈words l,(0:UInt8)∉w:=(Kh _ ([],[]) (fun c h=>by cases h) (fun w h=>by cases h)).2
theorem HW {a b:Fd} (ha:EE a) (Kr:(0:UInt8)∉a.2) (h:cL a=cL b):a=b:=by
 have h1:(cL a).count 0=1:=by
  unfold cL;rw[List.count_append,List.count_append,List.count_eq_zero.2 ha,List.count_eq_zero.2 Kr];simp
 have h2:(cL b).count 0=b.1.count 0+1+b.2.count 0:=by
  unfold cL;rw[List.count_append,List.count_append];simp
 rw[h]at h1;exact pL ha (show EE b from List.count_eq_zero.1 (by omega)) h
theorem uv {fs:List Fd} {t:Fd}:t∈(bX fs).map (·.1)↔∃f∈fs,f.1=t.1∧t.2∈words f.2:=by
 unfold bX fY;constructor
 ·intro h;obtain⟨p,hp,rfl⟩:=bZ.1 h;obtain⟨f,hf,hp⟩:=List.mem_flatMap.1 hp;obtain⟨q,hq,rfl⟩:=bZ.1 hp;exact⟨f,hf,rfl,(List.mem_zipIdx hq).2.2▸List.getElem_mem _⟩
 ·rintro⟨f,hf,h1,h2⟩;obtain⟨i,hi,he⟩:=List.mem_iff_getElem.1 h2;refine bZ.2 ⟨((f.1,t.2),i),List.mem_flatMap.2 ⟨f,hf,bZ.2 ⟨(t.2,i),?_,rfl⟩⟩,by rw[h1]⟩;rw[gq];simp[hi,he]
theorem HX {ws:List (List UInt8)} {x:List UInt8}:0<(oX ws x).length↔x∈ws:=by
 unfold oX;rw[ch,List.length_pos_iff_exists_mem];constructor
 ·rintro⟨p,hp⟩;obtain⟨h1,h2⟩:=mY.1 hp;have h2:p.1=x:=by simpa using h2
  rw[←h2];rw[gq]at h1;exact aI h1
 ·intro h;obtain⟨i,hi⟩:=bF.1 h;exact⟨(x,i),mY.2 ⟨by rw[gq];exact hi,by simp⟩⟩
theorem AS {d:Dc} (h:gR d) {k x:List UInt8}:x∈ec d.2 k↔∃f∈d.2,f.1=k∧x∈words f.2:=by
 unfold ec;constructor
 ·intro hx
  split at hx
  ·rename_i f hf
   exact⟨f,List.mem_of_find?_eq_some hf,by simpa using List.find?_some hf,hx⟩
  ·cases hx
 ·rintro⟨f,hf,h1,h2⟩
  split
  ·rename_i g hg
   have hg1:=List.mem_of_find?_eq_some hg;have SA:g.1=k:=by simpa using List.find?_some hg
   have:g=f:=by
    obtain⟨i,hi⟩:=bF.1 hg1;obtain⟨j,hj⟩:=bF.1 hf
    have gv:i=j:=by
     refine(List.getElem?_inj (by rw[ch];exact(av.1 hi).1) h.once).1 ?_;rw[cy,cy,hi,hj];simp[SA,h1]
    subst gv;rw[hi]at hj;exact bp hj
   rw[this];exact h2
  ·rename_i hn
   rw[List.find?_eq_none]at hn;exact absurd h1 (by simpa using hn f hf)
theorem HY {d:Dc} (h:gR d) (i:Nat) (t:Fd):yF i (bX d.2) (cL t)≠[]↔0<(oX (ec d.2 t.1) t.2).length:=by
 rw[HX,AS h];constructor
 ·intro eI;rcases rQ h i (cL t)with h1|⟨u,hu,hk,_⟩
  ·exact absurd h1 eI
  ·have Ia:=(gJ h.EF).1 hu;obtain⟨f,hf,TR,TW⟩:=uv.1 Ia;have e:u=t:=HW (by obtain⟨p,hp,rfl⟩:=bZ.1 Ia;exact h.EF p hp) (HV _ _ TW) hk;rw[←e];exact⟨f,hf,TR,TW⟩
 ·rintro⟨f,hf,h1,h2⟩;exact Gv ((gJ h.EF).2 (uv.2 ⟨f,hf,h1,h2⟩))
def OK (t:Fd) (x:En):Bool:=decide (0<(oX (ec x.1.2 t.1) t.2).length)
theorem HZ {d:Dc} (h:gR d) (i:Nat) (t:Fd):(yF i (bX d.2) (cL t)).map (·.1)=if 0<(oX (ec d.2 t.1) t.2).length then[(i:Int)]else[]:=by
 have hp:=HY h i t;rcases rQ h i (cL t)with h1|⟨u,_,_,h1⟩
 ·rw[h1,if_neg (fun hn=>(hp.2 hn) h1)];rfl
 ·rw[h1,if_pos (hp.1 (by rw[h1];simp))];rfl
theorem Df (t:Fd):∀(L:List En) (i:Nat),(∀e∈L,gR e.1)→(zT (cL t) i L).map (·.1)=((L.zipIdx i).filter fun p=>OK t p.1).map fun p=>(p.2:Int)
 |[],_,_=>rfl
 |e::L,i,hF=>by
  show(yF i (bX e.1.2) (cL t)++zT (cL t) (i+1) L).map (·.1)=_;rw[eL,HZ (hF e (by simp)) i t,Df t L (i+1) (fun e' he=>hF e' (by simp[he])),qa];unfold OK;by_cases h:0<(oX (ec e.1.2 t.1) t.2).length
  ·rw[if_pos h,eX (by simpa using h)];rfl
  ·rw[if_neg h,eY (by simpa using h)];rfl
theorem xd {T:Int} {f:Int→Int} {g:En→Bool}:∀(L:List En) (i:Nat),(∀p∈L.zipIdx i,f (p.2:Int)=p.1.2)→(L.map (·.2)).Pairwise (· < ·)→(((L.zipIdx i).filter fun p=>g p.1).map fun p=>(p.2:Int)).takeWhile (fun d=>decide (f d<T))=((L.zipIdx i).filter fun p=>decide (p.1.2<T)&&g p.1).map fun p=>(p.2:Int)
 |[],_,_,_=>rfl
 |e::L,i,hf,hp=>by
  rw[fj,fN]at hp;have ih:=xd (T:=T) (g:=g) L (i+1) (fun p EK=>hf p (by rw[qa];exact cq _ EK)) hp.2;have h0:f (i:Int)=e.2:=hf (e,i) (by rw[qa];exact bW ..);rw[qa];by_cases hT:e.2<T
  ·by_cases hg:g e=true
   ·rw[eX (by simpa using hg),eX (by simp[hT,hg]),fj,fj,iO,if_pos (by simp[h0,hT]),ih]
   ·rw[eY (by simpa using hg),eY (by simp[hg]),ih]
  ·have kL:((L.zipIdx (i+1)).filter fun p=>decide (p.1.2<T)&&g p.1)=[]:=by
    rw[List.filter_eq_nil_iff];intro p EK;have:=hp.1 p.1.2 (bZ.2 ⟨p.1,(List.mem_zipIdx EK).2.2▸List.getElem_mem _,rfl⟩);simp;intro;omega
   rw[eY (l:=L.zipIdx (i+1)) (p:=fun p:En×Nat=>decide (p.1.2<T)&&g p.1) (by simp[hT]),kL];by_cases hg:g e=true
   ·rw[eX (by simpa using hg),fj,iO,if_neg (by simp[h0,hT])];rfl
   ·rw[eY (by simpa using hg),ih,kL]
theorem Ep {α:Type} (f:α→Bool) (L:List α):gL (L.map f)=((L.zipIdx).filter fun p=>f p.1).map fun p=>(p.2:Int):=by
 unfold gL;rw[List.zipIdx_map,List.filter_map,List.map_map];rfl
theorem rp {L:List En} (eO:tW (-1) L=true) (e:Er):ju (pk L (cL e.1)) (L.map (·.2)) e.2=gL (L.map (nP e)):=by
 rw[Ep];unfold ju pk;rw[Df e.1 L 0 (lO eO)]
 have hz:∀p∈L.zipIdx 0,rF (L.map (·.2)) (p.2:Int)=p.1.2:=fun p hp=>by
  have h1:L[p.2]? =some p.1:=gq.1 hp;have h2:(L.map (·.2))[p.2]? =some p.1.2:=by rw[cy,h1,dN]
  exact Ht h2
 have h3:=xd (T:=e.2) (f:=rF (L.map (·.2))) (g:=OK e.1) L 0 hz (Ar (qD eO)).2;rw[h3];rfl
theorem Es {l:List Bool} {j:Nat}:(j:Int)∈gL l↔l[j]? =some true:=by
 unfold gL;constructor
 ·intro h;obtain⟨p,hp,he⟩:=bZ.1 h;obtain⟨h1,h2⟩:=mY.1 hp;have h3:=gq.1 h1;have:p.2=j:=by omega
  rw[this,h2]at h3;exact h3
 ·intro h;exact bZ.2 ⟨(true,j),mY.2 ⟨gq.2 h,rfl⟩,rfl⟩
theorem Ck {L:List En} (eO:tW (-1) L=true) (e:Er) {j:Nat} {x:En} (hx:L[j]? =some x):decide ((j:Int)∈nQ (rS (fM L)) ((keysOf L).map (pk L)) e)=nP e x:=by
 have h1:nQ (rS (fM L)) ((keysOf L).map (pk L)) e=gL (L.map (nP e)):=by
  show ju (lg (keysOf L) ((keysOf L).map (pk L)) (cL e.1)) (L.map (·.2)) e.2=_;rw[ua];exact rp eO e
 rw[h1,Bool.eq_iff_iff,decide_eq_true_eq,Es,cy,hx];simp
theorem Et {L:List En} (eO:tW (-1) L=true) (es:List Er) (upto:Int) {j:Nat} {x:En} (hx:L[j]? =some x):o0 L.length (rS (fM L)) ((keysOf L).map (pk L)) upto es j=iJ es upto x:=by
 have hj:=(av.1 hx).1
 have h2:rF (rS (fM L)).2.1 (j:Int)=x.2:=by
  show rF (L.map (·.2)) (j:Int)=_;exact Ht (by rw[cy,hx,dN])
 unfold o0 iJ;rw[decide_eq_true hj,cZ,h2];congr 2;exact List.any_congr rfl fun e=>by rw[Ck eO e hx]
theorem xe {ws:List Nat} {L:List En} {f:En→Bool} (h:∀(j:Nat) x,L[j]? =some x→bit ws j=f x):∀p,p≤L.length→low ws p=gL ((L.map f).take p)
 |0,_=>rfl
 |p+1,hp=>by
  obtain⟨x,hx⟩:∃x,L[p]? =some x:=⟨_,aD (by omega)⟩;have SL:(L.map f)[p]? =some (f x):=by rw[cy,hx,dN]
  rw[low,my SL,xe h p (by omega),h p x hx]
theorem Eu {L:List En} (eO:tW (-1) L=true) {es:List Er} {upto:Int} {ws:List Nat} (h:∀j,bit ws j=o0 L.length (rS (fM L)) ((keysOf L).map (pk L)) upto es j):low ws L.length=gL (L.map (iJ es upto)):=by
 rw[xe (fun j x hx=>(h j).trans (Et eO es upto hx)) L.length (a7 _),aW (by simp)]
end Go.K
namespace Go.K
open Go.Proofs
namespace TKLater
theorem wU:TI Tryz.prog 51 (.agg #[(.string ⟨#[]⟩),(.string ⟨#[]⟩),(.int .i64 0)]) 3 40:=by unfold TI;kernel_rfl
theorem Ur:placesOf Tryz.prog 51=[(0,2),(2,1)].map some:=by kernel_rfl
theorem Tc:Enters Tryz.prog 15:=enters Tryz.func15 rfl (by decide)
theorem E21:Enters Tryz.prog 21:=enters Tryz.func21 rfl (by decide)
theorem Us:Enters Tryz.prog 24:=enters Tryz.func24 rfl (by decide)
theorem E26:Enters Tryz.prog 26:=enters Tryz.func26 rfl (by decide)
end TKLater
open TKLater
set_option maxRecDepth 10000
theorem H0 (L:List En):(rS (fM L)).2.2.2=((keysOf L).map (pk L)).map hU:=rfl
theorem H2 (L:List En):(rS (fM L)).2.2.1.length=((keysOf L).map (pk L)).length:=by rw[ch];rfl
theorem xf {L:List En} (h:tW (-1) L=true) (hn:L.length≤1000000) (k:List UInt8):J5 (lg (rS (fM L)).2.2.1 ((keysOf L).map (pk L)) k):=by
 show J5 (lg (keysOf L) _ _);rw[ua];exact HB (lO h) hn _
end Go.K
namespace Go.K
open Go.Proofs
namespace TKLives15
theorem Cf:TI Tryz.prog 49 (.agg #[(.string ⟨#[]⟩),(.string ⟨#[]⟩),(.int .i64 0)]) 3 40:=by unfold TI;kernel_rfl
theorem wU:TI Tryz.prog 51 (.agg #[(.string ⟨#[]⟩),(.string ⟨#[]⟩),(.int .i64 0)]) 3 40:=by unfold TI;kernel_rfl
theorem Tc:Enters Tryz.prog 15:=enters Tryz.func15 rfl (by decide)
theorem E21:Enters Tryz.prog 21:=enters Tryz.func21 rfl (by decide)
theorem Us:Enters Tryz.prog 24:=enters Tryz.func24 rfl (by decide)
theorem E26:Enters Tryz.prog 26:=enters Tryz.func26 rfl (by decide)
theorem E38:Enters Tryz.prog 38:=enters Tryz.func38 rfl (by decide)
theorem E47:Enters Tryz.prog 47:=enters Tryz.func47 rfl (by decide)
theorem E48:Enters Tryz.prog 48:=enters Tryz.func48 rfl (by decide)
theorem E49:Enters Tryz.prog 49:=enters Tryz.func49 rfl (by decide)
theorem E50:Enters Tryz.prog 50:=enters Tryz.func50 rfl (by decide)
theorem E51:Enters Tryz.prog 51:=enters Tryz.func51 rfl (by decide)
theorem E52:Enters Tryz.prog 52:=enters Tryz.func52 rfl (by decide)
theorem E53:Enters Tryz.prog 53:=enters Tryz.func53 rfl (by decide)
theorem Z8:Enters Tryz.prog 54:=enters Tryz.func54 rfl (by decide)
end TKLives15
open TKLives15
set_option maxRecDepth 10000
theorem uw {l:List Dc} {a s:Int} {k:Nat}:∀x∈eo l a s k,(∀f∈x.1.2,f.1.length≤900000∧f.2.length≤900000)∧x.1.2.length≤1000000:=fun x hx=>by
 refine⟨uj x hx,?_⟩;obtain⟨d,hd⟩:=qF hx;have:=(yc (wW d)).few;rw[hd];omega
theorem H3 {L:List En} (eO:tW (-1) L=true) {e:Er}:ju (lg (rS (fM L)).2.2.1 ((keysOf L).map (pk L)) (cL e.1)) (rS (fM L)).2.1 e.2=gL (L.map (nP e)):=by
 show ju (lg (keysOf L) ((keysOf L).map (pk L)) (cL e.1)) (L.map (·.2)) e.2=_;rw[ua];exact rp eO e
theorem ux {L:List En} {f:En→Bool} {j:Nat} {x:En} (h:L[j]? =some x):gL ((L.take (j+1)).map f)=if f x=true then gL ((L.take j).map f)++[(j:Int)]else gL ((L.take j).map f):=by
 rw[List.map_take,List.map_take];exact my (by rw[cy,h,dN])
theorem Cl {L:List En} (eO:tW (-1) L=true) {es:List Er} {upto:Int} {ws:List Nat} (h:∀j,bit ws j=o0 (rS (fM L)).1.length (rS (fM L)) ((keysOf L).map (pk L)) upto es j):low ws (rS (fM L)).1.length=gL (L.map (iJ es upto)):=by
 have e:(rS (fM L)).1.length=L.length:=by show(List.map _ _).length=_;rw[ch]
 rw[e]at h ⊢;exact Eu eO h
theorem H4 {M:aB} {base:Nat} {u v:Value} {a b:List Int} (w0:World) (hM:Lt M w0) (hv:((RT.int .i64).sl).V M w0 a v) (ho:Own (RT.int .i64) 3 M w0 base u b) (hl:b.length≤1000000):Spec Tryz.prog 51 #[v,u] w0 (fun v w=>v= .bool (decide (a=b))∧Step M w0 M w aA):=
 (wK (M:=rm M u) (hM.rm u) (hv.le (oe M u w0)) (ho.view (by omega))).mono fun v w ⟨h,s⟩=>⟨h,s.any M⟩
theorem rJ {M:aB} {l:List Dc} {er:List Er} {v0 v1:Value} {upto:Int} {w0:World} (hM:Lt M w0) (hv:(RT.dc.sl).V M w0 l v0) (k7:(RT.er.sl).V M w0 er v1) (hx: -9223372036854775808≤upto∧upto≤9223372036854775807) (h0: ¬M 0) (HN:∃e fr,w0.heap[0]? =some (.cells (Fk.map fun(k:Nat)=>Value.int .u8 (k:Int)).toArray e fr)):
  Spec Tryz.prog 10 #[v0,v1,.int .i64 upto] w0 (fun v w=>v= .bool true∧Step M w0 M w aA):=by
 have iL:=hM;have hgl:=jT l 2 3 12;obtain⟨eO,_⟩:=AF l (show(0:Int)≤2 by decide) (show(1:Int)≤3 by decide) 12;have so:(er.take 20).length≤20:=by rw[bG];omega
 obtain⟨etb,ftb,htb⟩:=HN;refine aZ (args:=[_,_,_]) (fn:=Tryz.f10) Tryz.func10 rfl (n:=91) Tryz.ntmps10 ?_;have S:Step M w0 M w0 aA:=(an _ _).ca (fun _ h=>h.elim) (fun _ h=>h.elim);refine aj (ah (ai rfl rfl (ad (aj (ah (ae rfl rfl ?_))))));refine aQ rfl rfl E21 (Bx (most:=12) (a:=2) (s:=3) _ hM hv (by decide) (by decide) (by decide)) (fun r1 w1 hc=>?_);obtain⟨hg,s1⟩:=hc;replace hv:=hv.le s1.le;replace k7:=k7.le s1.le;replace hM:=s1.lt hM;have:=S.size;replace S:=S.ax s1;refine ai rfl rfl (ad (aj (ah (ae rfl rfl ?_))));refine aQ rfl rfl Tc (ug _ hM hg uj (by omega) eO) (fun r2 w2 hc=>?_);obtain⟨sa,rfl,hs,s2⟩:=hc;obtain⟨aa,rfl⟩:=hs.jn;replace hv:=hv.le s2.le;replace k7:=k7.le s2.le;replace hg:=hg.le s2.le;replace hM:=s2.lt hM;have:=S.size;replace S:=S.ax s2;refine ae rfl rfl (bU rfl rfl rfl (bU rfl rfl rfl (ai rfl rfl (ai rfl rfl (ad (aj (aj (ah (ae rfl rfl (Rg.y4 Tryz.underlying25 rfl rfl rfl (ad ?_)))))))))));refine T.AY rfl ((by simp)) (aS (aj (ah (ae rfl rfl ?_))));refine aQ rfl rfl E47 (Eh _ hM k7 (ei k7)) (fun r5 w5 hc=>?_);obtain⟨he,s5⟩:=hc;replace hv:=hv.le s5.le;replace k7:=k7.le s5.le;replace hg:=hg.le s5.le;replace hs:=hs.le (by decide) s5.le;replace hM:=s5.lt hM;have:=S.size;replace S:=S.ax s5;refine ai rfl rfl (ad (aj (ah (ae rfl rfl (ae rfl rfl (ae rfl rfl ?_))))));refine aQ rfl rfl E48 (Em (ls:=(keysOf (eo l 2 3 12)).map (pk (eo l 2 3 12))) _ hM hs (kS _) (H0 _) (H2 _) (by show(List.map _ _).length≤_;rw[ch];omega) he (by omega) (fun e _=>xf eO (by omega) _)) (fun r6 w6 hc=>?_);obtain⟨os,ow,ws,M6,rfl,z1,z2,s6,kJ,uu⟩:=hc;replace hv:=hv.le s6.le;replace k7:=k7.le s6.le;replace hg:=hg.le s6.le;replace hs:=hs.le (by decide) s6.le;replace he:=he.le s6.le
 replace hM:=s6.lt hM;have:=S.size;replace S:=S.ax s6;refine ai rfl rfl (ad (aj (aj (ah (ae rfl rfl (Rg.y4 Tryz.underlying88 rfl rfl rfl (ad (T.AY rfl ((by simp)) (aS (aj (ah ?_)))))))))));refine ae rfl rfl (ae rfl rfl ?_);refine aQ rfl rfl E38 (wZ _ hM he (by omega)) (fun r9 w9 hc=>?_);obtain⟨Ki,s9⟩:=hc;replace kJ:=kJ.step s9 (fun h=>h) (fun h=>h);replace hv:=hv.le s9.le;replace k7:=k7.le s9.le;replace hg:=hg.le s9.le;replace hs:=hs.le (by decide) s9.le;replace he:=he.le s9.le;replace hM:=s9.lt hM;have:=S.size;replace S:=S.ax s9;refine ae rfl rfl ?_;refine aQ rfl rfl E49 (AN _ hM hg Ki uw (by omega) (by omega)) (fun r94 w94 hc=>?_);obtain⟨Cm,Kj⟩:=hc;replace kJ:=kJ.step Kj (fun h=>h) (fun h=>h);replace hv:=hv.le Kj.le;replace k7:=k7.le Kj.le;replace hg:=hg.le Kj.le;replace hs:=hs.le (by decide) Kj.le;replace he:=he.le Kj.le;replace Ki:=Ki.le Kj.le;replace hM:=Kj.lt hM;have:=S.size;replace S:=S.ax Kj;refine ai rfl rfl (ad (aj (aj (ah (ae rfl rfl ?_)))));refine aQ rfl rfl E50 (Ei kJ) (fun ahJ ahK hc=>?_);obtain⟨rfl,rfl⟩:=hc;refine ae rfl rfl (bM dp rfl hg rfl (eW rfl rfl rfl (ae rfl rfl (Rg.EN (g:=45) rfl ((fun h=>h (by show((List.map _ _).length:Int)=_;rw[ch]))) (al rfl rfl (ae rfl rfl (al rfl rfl ?_)))))));have aaB:=S.aM htb;refine aQ rfl rfl E52 (Cj hM kJ (fun j hj=>De ((uu j).symm.trans hj)) (fun hn=>h0 ((S.mem 0 (ak htb)).1 hn)) ⟨etb,ftb,aaB⟩) (fun ahL ahM hc=>?_);obtain⟨AT,yx⟩:=hc;replace hv:=hv.le yx.le;replace k7:=k7.le yx.le;replace hg:=hg.le yx.le;replace hs:=hs.le (by decide) yx.le;replace he:=he.le yx.le;replace Ki:=Ki.le yx.le;replace Cm:=Cm.le yx.le;replace hM:=yx.lt hM;have:=S.size;replace S:=S.ax yx;refine al rfl rfl (ae rfl rfl (al rfl rfl ?_))
 refine aQ rfl rfl E53 (Cg _ hM Cm (by rw[ch];omega)) (fun ahN ahO hc=>?_);obtain⟨H5,vE⟩:=hc;replace hv:=hv.le vE.le;replace k7:=k7.le vE.le;replace hg:=hg.le vE.le;replace hs:=hs.le (by decide) vE.le;replace he:=he.le vE.le;replace Ki:=Ki.le vE.le;replace Cm:=Cm.le vE.le;replace AT:=AT.le vE.le;replace hM:=vE.lt hM;have:=S.size;replace S:=S.ax vE;refine al rfl rfl ?_;refine aQ rfl rfl E51 (wK hM AT H5) (fun ahP ahQ hc=>?_);obtain⟨rfl,uy⟩:=hc;refine bz (v':= .bool true) (congrArg Value.bool (decide_eq_true (Cl eO uu))) ?_;replace hv:=hv.le uy.le;replace k7:=k7.le uy.le;replace hg:=hg.le uy.le;replace hs:=hs.le (by decide) uy.le;replace he:=he.le uy.le;replace Ki:=Ki.le uy.le;replace Cm:=Cm.le uy.le;replace AT:=AT.le uy.le;replace H5:=H5.le uy.le;replace hM:=uy.lt hM;have:=S.size;replace S:=S.ax uy;refine al rfl rfl (rq rfl rfl (bz (v':= .bool false) rfl (az rfl rfl rfl (ad (gG rfl (aS (aj (aj (ah (ai rfl rfl (ad ?_)))))))))));refine aY ?_;refine dr (σ:=Nat) (fun i=>[(7,r1),(8,.pointer (some aa)),(10,r5),(13,.int .i64 (i:Int))]) (fun i w=>∃M1,Lt M1 w∧Step M w0 M1 w aA∧(RT.en.sl).V M1 w (eo l 2 3 12) r1∧cp RT.se M1 w (.pointer (some aa)) (rS (fM (eo l 2 3 12)))∧(RT.er.sl).V M1 w (er.take 20) r5∧i≤(er.take 20).length) (fun i=>(er.take 20).length-i) 0 (.cons rfl (.cons rfl (.cons rfl (.cons rfl .nil)))) ?_ ?_
 ·exact⟨_,hM,S,hg,hs,he,bB _⟩
 ·clear S hg hs he hM;rintro i w ⟨M1,hM,S,hg,hs,he,hi⟩;refine aj (aj (ah (ae rfl rfl (ae rfl rfl (bM iP rfl he rfl (b4 rfl rfl rfl (ad ?_)))))));refine bH rfl (fun FU=>?_) (fun FU=>?_)
  ·refine aS (aj (aY (aj (ah (ai rfl rfl (ad (aj (ah (ae rfl rfl ?_)))))))));refine aQ rfl rfl E38 (wZ _ hM he (by omega)) (fun r16 JR hc=>?_);obtain⟨Kl,vr⟩:=hc;replace hg:=hg.le vr.le;replace hs:=hs.le (by decide) vr.le;replace he:=he.le vr.le;replace hM:=vr.lt hM;have:=S.size;replace S:=S.ax vr;refine ae rfl rfl ?_;obtain⟨e,Ly⟩:∃e,(er.take 20)[i]? =some e:=⟨_,aD (by omega)⟩;refine cK (M:=M1) iR Cf rfl rfl rfl Kl (ao _ _) (by omega) (fun ahR y' kA TB=>?_);rw[aw]at kA;obtain rfl:=bp (Ly.symm.trans kA);refine b5 (M:=M1) (A:=RT.er) iQ rfl Cf (by decide) rfl rfl rfl TB (ao _ _) (fun v164 hve=>?_);have OI:=hve;obtain⟨rfl,_,_⟩:=B9 OI;refine mz (A:=RT.er) (M:=M1) Cf rfl rfl rfl rfl rfl (by assumption) (ao _ _) hM (fun LA ac5 H6 xg ac6=>?_);replace hg:=hg.le xg.le;replace hs:=hs.le (by decide) xg.le;replace he:=he.le xg.le;replace Kl:=Kl.le xg.le;replace hM:=xg.lt hM;have:=S.size;replace S:=S.ax xg;refine ad (aj (aj (ah (ai rfl rfl (ad (aY ?_))))));refine dr (σ:=Nat×Value) (fun q=>[(7,r1),(8,.pointer (some aa)),(10,r5),(13,.int .i64 (i:Int)),(14,q.2),(15,LA),(16,.int .i64 (q.1:Int))]) (fun q w=>∃M1,Lt M1 w∧Step M w0 M1 w aA∧Own (RT.int .i64) 3 M1 w w0.heap.size q.2 (gL (((eo l 2 3 12).take q.1).map (nP e)))∧(RT.en.sl).V M1 w (eo l 2 3 12) r1∧cp RT.se M1 w (.pointer (some aa)) (rS (fM (eo l 2 3 12)))∧(RT.er.sl).V M1 w (er.take 20) r5∧cp RT.er M1 w LA e∧q.1≤(eo l 2 3 12).length) (fun q=>(eo l 2 3 12).length-q.1) (0,.slice none 0 0) (.cons rfl (.cons rfl (.cons rfl (.cons rfl (.cons rfl (.cons rfl (.cons rfl .nil))))))) ?_ ?_
   ·exact⟨_,hM,S,dK _ _ _ _ _,hg,hs,he,H6,bB _⟩
   ·clear S hg hs he hM Kl H6;rintro⟨j,u⟩ w ⟨M1,hM,S,ho,hg,hs,he,hb,hj⟩;dsimp only at ho hj ⊢;refine aj (aj (ah (ae rfl rfl (ae rfl rfl (bM dp rfl hg rfl (b4 rfl rfl rfl (ad ?_)))))));refine bH rfl (fun c18=>?_) (fun c18=>?_)
    ·refine aS (aj (aY (aj ?_)));apply T.Kv 5 mixed rfl rfl rfl rfl rfl;intro ahT aaC;have Cn:=aaC M1;replace hg:=hg.le Cn.le;replace hs:=hs.le (by decide) Cn.le;replace he:=he.le Cn.le;replace hb:=hb.le (by decide) Cn.le;replace ho:=ho.bh Cn;replace hM:=Cn.lt hM;have:=S.size;replace S:=S.ax Cn;obtain⟨x,Oo⟩:∃x,(eo l 2 3 12)[j]? =some x:=⟨_,aD (by omega)⟩;obtain⟨hx1,KZ⟩:=uw x (aI Oo);refine b5 (M:=M1) (A:=RT.er) iQ rfl Cf (by decide) rfl rfl rfl hb (ao _ _) (fun ahU TC=>?_);refine ad ⟨rfl,rfl,rfl,?_⟩;refine ae rfl rfl ?_;refine ad ⟨rfl,rfl,rfl,?_⟩;refine ae rfl rfl ?_;refine ad ⟨rfl,rfl,rfl,?_⟩;refine cK (M:=M1) dp uD rfl rfl rfl hg (ao _ _) (by omega) (fun ahV y' kA TD=>?_);rw[aw]at kA;obtain rfl:=bp (Oo.symm.trans kA);refine ad ⟨rfl,rfl,rfl,?_⟩;refine b5 (M:=M1) (A:=RT.en) cn rfl uD (by decide) rfl rfl rfl TD (ao _ _) (fun ahW TE=>?_);refine ad ⟨rfl,rfl,rfl,?_⟩;refine fa ?_;refine aQ rfl rfl Z8 (pV _ hM TC TE hx1 KZ) (fun ahX ahY hc=>?_);obtain⟨rfl,Co⟩:=hc;refine bz (v':= .bool (decide (nP e x=true))) (by simp) ?_;replace hg:=hg.le Co.le;replace hs:=hs.le (by decide) Co.le;replace he:=he.le Co.le;replace hb:=hb.le (by decide) Co.le;replace ho:=ho.bh Co;replace hM:=Co.lt hM;have:=S.size;replace S:=S.ax Co;refine ai rfl rfl (ad (aj (ah (ae rfl rfl (ad ?_)))));refine bH rfl (fun c21=>?_) (fun c21=>?_)
     ·refine ah (ae rfl rfl (ae rfl rfl ?_));refine eh (A:=RT.int .i64) (hn:=by decide) (M:=M1) au I3 (by decide) rfl rfl hM (fW (by omega)) (.inr ⟨rfl,rfl⟩) (fun ac7 ac8 Cp uz=>?_);replace hg:=hg.le uz.le;replace hs:=hs.le (by decide) uz.le;replace he:=he.le uz.le;replace hb:=hb.le (by decide) uz.le;replace ho:=ho.bh uz;replace hM:=uz.lt hM;have:=S.size;replace S:=S.ax uz;refine cR (M:=M1) (base:=w0.heap.size) au I3 rfl rfl rfl rfl ho Cp (ao _ _) (by have:=jU ((((eo l 2 3 12)).take j).map (nP e));simp at this ⊢;omega) (by have:=jU ((((eo l 2 3 12)).take j).map (nP e));simp at this ⊢;omega) (S.size) (fun TF ac9 ada OL uA=>?_);replace hg:=hg.le uA.le;replace hs:=hs.le (by decide) uA.le;replace he:=he.le uA.le;replace hb:=hb.le (by decide) uA.le;replace Cp:=Cp.le uA.le;replace hM:=uA.lt hM;have:=S.size;replace S:=S.dd uA ho (a7 _);replace ho:=OL;refine ai rfl rfl (ad (ah (ae rfl rfl (bu rfl rfl rfl (by omega) (ai rfl rfl (ad ?_))))));refine⟨rfl,(j+1,TF),(.cons rfl (.cons rfl (.cons rfl (.cons rfl (.cons rfl (.cons rfl (.cons rfl .nil))))))),?_,?_⟩
      ·exact⟨_,hM,S,by dsimp only;rw[ux Oo,if_pos c21];exact ho,hg,hs,he,hb,by dsimp only;omega⟩
      ·dsimp only;omega
     ·refine aS (ah (ae rfl rfl (bu rfl rfl rfl (by omega) (ai rfl rfl (ad ?_)))));refine⟨rfl,(j+1,u),(.cons rfl (.cons rfl (.cons rfl (.cons rfl (.cons rfl (.cons rfl (.cons rfl .nil))))))),?_,?_⟩
      ·exact⟨_,hM,S,by dsimp only;rw[ux Oo,if_neg c21];exact ho,hg,hs,he,hb,by dsimp only;omega⟩
      ·dsimp only;omega
    ·refine cG (aj (ah (ae rfl rfl (ae rfl rfl (ae rfl rfl ?_)))));obtain o2:j=(eo l 2 3 12).length:=by omega
     subst o2;rw[aW (a7 _)]at ho;refine cK (M:=M1) iP wU rfl rfl rfl he (ao _ _) (by omega) (fun ahZ y' kA TG=>?_);rw[aw]at kA;obtain rfl:=bp (Ly.symm.trans kA);refine b5 (M:=M1) (A:=RT.er) fE rfl wU (by decide) rfl rfl rfl TG (ao _ _) (fun v234 TH=>?_);refine aQ rfl rfl Us (ue (e:=e) (ls:=(keysOf (eo l 2 3 12)).map (pk (eo l 2 3 12))) _ hM hs TH (kS _) (H0 _) (H2 _) (xf eO (by omega) _)) (fun ah0 ah1 hc=>?_);obtain⟨Dg,Cq⟩:=hc;rw[H3 eO]at Dg;replace hg:=hg.le Cq.le;replace hs:=hs.le (by decide) Cq.le;replace he:=he.le Cq.le;replace hb:=hb.le (by decide) Cq.le;replace ho:=ho.bh Cq;replace hM:=Cq.lt hM;have:=S.size;replace S:=S.ax Cq;refine ae rfl rfl ?_;refine aQ rfl rfl E51 (H4 _ hM Dg ho (by have:=jU ((eo l 2 3 12).map (nP e));rw[ch]at this;omega)) (fun ah2 ah3 hc=>?_);obtain⟨rfl,AU⟩:=hc;refine bz (v':= .bool true) (by simp) ?_;replace hg:=hg.le AU.le;replace hs:=hs.le (by decide) AU.le;replace he:=he.le AU.le;replace hb:=hb.le (by decide) AU.le;replace Dg:=Dg.le AU.le;replace ho:=ho.bh AU;replace hM:=AU.lt hM;have:=S.size;replace S:=S.ax AU;refine rq rfl rfl (bz (v':= .bool false) rfl (ad (gG rfl (aS (ah (ae rfl rfl (bu rfl rfl rfl (by omega) (ai rfl rfl (ad ?_)))))))));refine⟨rfl,i+1,(.cons rfl (.cons rfl (.cons rfl (.cons rfl .nil)))),?_,?_⟩
     ·exact⟨_,hM,S,hg,hs,he,by omega⟩
     ·omega
  ·refine cG (aj (ah ?_));refine aQ rfl rfl E26 (yt _ hM) (fun r25 w25 hc=>?_);obtain⟨rfl,TL⟩:=hc;replace hg:=hg.le TL.le;replace hs:=hs.le (by decide) TL.le;replace he:=he.le TL.le;replace hM:=TL.lt hM;have:=S.size;replace S:=S.ax TL;refine ai rfl rfl (ad (aL ?_));exact aO rfl rfl ⟨rfl,S.back⟩
end Go.K

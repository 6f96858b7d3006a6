/- What the law 'EraseJoins' needs of walks and plain Lean, part 5: nothing is assumed beyond the texts that it imports. -/
import Derived.KernelRfl
import Derived.Laws.StructEq
import Derived.Test.YtohfoenhmkfjkaaGreatDoorProg
import Derived.Test.YtohfoenhmkfjkaaGreatDoorZEraseJoins1
import Derived.Test.YtohfoenhmkfjkaaGreatDoorZEraseJoins2
import Derived.Test.YtohfoenhmkfjkaaGreatDoorZEraseJoins3
import Derived.Test.YtohfoenhmkfjkaaGreatDoorZEraseJoins4
set_option linter.unusedVariables false
set_option linter.unusedSimpArgs false
namespace Go.K
open Go.Proofs
namespace TKErsB
theorem Sz:Enters Tryz.prog 70:=enters Tryz.func70 rfl (by decide)
theorem E95:Enters Tryz.prog 95:=enters Tryz.func95 rfl (by decide)
theorem E96:Enters Tryz.prog 96:=enters Tryz.func96 rfl (by decide)
end TKErsB
open TKErsB
set_option maxRecDepth 10000
def me (l:List Po) (sq:List Int) (t:Int):List Int:=(l.map (·.1)).takeWhile fun d=>decide (vI sq d<t)
theorem J0 {α:Type} {p:α→Bool}:∀{xs:List α} {k:Nat} {d:α},(∀(j:Nat) x,j<k→xs[j]? =some x→p x=true)→xs[k]? =some d→p d=true→(xs.takeWhile p)[k]? =some d
 |[],_,_,_,h,_=>by simp at h
 |x::xs,0,d,_,h,hp=>by simp at h;subst h;simp[tP,hp]
 |x::xs,k+1,d,h1,h,hp=>by
  rw[tP,if_pos (h1 0 x (by omega) rfl),List.getElem?_cons_succ];exact J0 (fun j y hj hy=>h1 (j+1) y (by omega) (by simpa using hy)) (by simpa using h) hp
theorem Bj {α:Type} {p:α→Bool}:∀{xs:List α} {k:Nat},(∀(j:Nat) x,j<k→xs[j]? =some x→p x=true)→k≤xs.length→(∀d,xs[k]? =some d→p d=false)→(xs.takeWhile p).length=k
 |[],k,_,h,_=>by simp at h;simp[h]
 |x::xs,0,_,_,h=>by rw[tP,if_neg (by rw[h x rfl];decide)];rfl
 |x::xs,k+1,h1,h2,h=>by
  rw[tP,if_pos (h1 0 x (by omega) rfl),cr,Bj (k:=k) (fun j y hj hy=>h1 (j+1) y (by omega) (by simpa using hy)) (by simpa using h2) (fun d hd=>h d (by simpa using hd))]
structure IP (l:List Po):Prop where
 may:dQ (-1) l=true
 ps:∀p∈l,p.2.length≤1099511627776
 by_:(dx (-1) l).length≤1099511627776
 ln:l.length≤1099511627776
theorem GH {L:List En} (hF:∀e∈L,iA e.1) (hn:L.length≤1000000) (k:List UInt8):IP (pk L k):=by
 have h1:=qe k L 0 hF;have pw:dQ (-1) (pk L k)=true:=rr k L 0 (-1) hF (by omega) (by omega);have qW:∀p∈pk L k,p.2.length≤500:=fun p hp=>(h1.2 p hp).2.2
 obtain⟨h2,h3⟩:=qf (pk L k) (-1) 500 (by omega) pw qW (by omega);have hl:(pk L k).length≤L.length:=h1.1;exact⟨pw,fun p hp=>by have:=qW p hp;omega,by omega,by omega⟩
theorem tB {M:aA} {s:Se} {e:Er} {v0 ve:Value} (w0:World) (hM:Lt M w0) (hs:ch RT.se M w0 v0 s) (he:RT.er.V M w0 e ve):
  Spec Tryz.prog 72 #[v0,ve] w0 (fun v w=>∃bs u,v= .func (.func 122) #[] [.pointer (some ⟨bs,0,none⟩),u].toArray∧w.heap[bs]? =some (.cells #[v0] 25 (0,0))∧ch RT.er M w u e∧w0.heap.size≤bs∧Step M w0 M w aC):=by
 refine aX (args:=[_,_]) (fn:=Tryz.f72) Tryz.func72 rfl (n:=6) Tryz.ntmps72 (aj (ah ?_));refine oN M rfl rfl (fun bs w1 p1 q1 g1 s1=>?_);rw[qh hs]at g1;replace s1:=s1.back;refine kd (A:=RT.er) (a:=e) rfl rfl (s1.lt hM) (he.le s1.le) rfl (fun u w2 hu s2 _=>?_);refine ai rfl rfl (ad (aj (ah (ia (xs:=[]) (ys:=[.tmp 2,.tmp 3]) rfl rfl rfl (ai rfl rfl (ad (aJ ?_)))))));exact aO rfl rfl ⟨bs,u,rfl,s2.aI g1,hu,p1,s1.ay s2⟩
theorem zz {bs yl:Nat} {u v0:Value} {s:Se} {ls:List (List Po)} {e:Er} {J:Nat→aA→World→Prop} {M:aA} {Jx:World→Prop} (w0:World) (xv:xi s.2.2.1) (DD:s.2.2.2=ls.map gJ) (IN:s.2.2.1.length=ls.length) (xM:IP (lu s.2.2.1 ls (dd e.1))) (h1:e.1.1.length≤140737488355328) (h2:e.1.2.length≤140737488355328) (DF:∀i M w,J i M w→w.heap[bs]? =some (.cells #[v0] 25 (0,0))∧Lt M w∧ch RT.se M w v0 s∧ch RT.er M w u e) (iy:∀i M w M' w' N,J i M w→Step M w M' w' N→(∀b,N b→w0.heap.size≤b∧(b<w.heap.size→∃cs,w.heap[b]? =some (.cells cs 216 (0,0))))→J i M' w') (hy:∀(i:Nat) (M:aA) (w:World) (d:Int),J i M w→(me (lu s.2.2.1 ls (dd e.1)) s.2.1 e.2)[i]? =some d→qA Tryz.prog yl [.int .i64 d].toArray w (fun r w'=>∃b,r= .bool b∧(b=true→∃M' N,J (i+1) M' w'∧Step M w M' w' N∧∀k,N k→∀cs,w.heap[k]? ≠some (.cells cs 216 (0,0)))∧(b=false→Jx w'))) (h0:J 0 M w0):
  Spec Tryz.prog 122 #[.func (.yield yl) #[] #[],.pointer (some ⟨bs,0,none⟩),u] w0 (fun _ w=>(∃M',J (me (lu s.2.2.1 ls (dd e.1)) s.2.1 e.2).length M' w)∨Jx w):=by
 obtain⟨gb,hM,hs,hu⟩:=DF _ _ _ h0;refine aX (args:=[_,_,_]) (fn:=Tryz.f122) Tryz.func122 rfl (n:=28) Tryz.ntmps122 (aj (ah (aE Tryz.underlying25 rfl rfl rfl gb rfl (bz (v':=v0) rfl ?_))));refine aH (M:=M) (A:=RT.er) (B:=RT.fd) kR rfl rfl qE (by decide) er0 rfl rfl (by decide) hu (aq _ _) (fun uf xr=>?_);refine cC (M:=M) (A:=RT.fd) b9 rfl qE (by decide) rfl rfl rfl xr (aq _ _) (fun vt DH=>?_);obtain rfl:=kI DH;refine aP rfl rfl E95 (xz (t:=e.1) _ hM hs xv DD IN h1 h2) (fun r0 w1 hc=>?_);obtain⟨bc,rfl,hz,s1,hC⟩:=hc;have XW:=iy _ _ _ _ _ _ h0 s1 (fun b h=>h.elim);generalize ins M bc=M0 at s1 hC XW;refine ai rfl rfl (ad (aj (ah (ae rfl rfl ?_))));obtain⟨_,rb,_,_⟩:=DF _ _ _ XW;refine aP rfl rfl E96 (vL hC rb xM.may xM.ps xM.by_ xM.ln) (fun r2 w2 h=>?_);obtain⟨rfl,s2,Re⟩:=h;have SA:=iy _ _ _ _ _ _ XW s2 (fun b (h:b=bc)=>⟨by omega,fun _=>by(obtain⟨_,_,_,_,_,h9,_⟩:=hC;exact⟨_,by rw[h];exact h9⟩)⟩);have Jd:pz (lu s.2.2.1 ls (dd e.1)) (-1)=((0:Nat):Int):=by unfold pz;rw[if_pos (by omega)];rfl
 rw[Jd]at Re ⊢;refine ai rfl rfl (ad (bj ?_));refine dF (σ:=Nat) (fun k=>[(0,.func (.yield yl) #[] #[]),(1,.pointer (some ⟨bs,0,none⟩)),(2,u),(4,.pointer (some ⟨bc,0,none⟩)),(5,.int .i64 (eC (lu s.2.2.1 ls (dd e.1)) (k:Int)))]) (fun k w=>k≤(lu s.2.2.1 ls (dd e.1)).length∧(∀(j:Nat) x,j<k→((lu s.2.2.1 ls (dd e.1)).map (·.1))[j]? =some x→decide (vI s.2.1 x<e.2)=true)∧∃M1,J k M1 w∧Cu 216 (lu s.2.2.1 ls (dd e.1)) (k:Int) M1 w bc) (fun k=>(lu s.2.2.1 ls (dd e.1)).length-k) 0 (.cons rfl (.cons rfl (.cons rfl (.cons rfl (.cons rfl .nil))))) ?_ ?_
 ·exact⟨bH _,fun j x h=>absurd h (jv _),_,SA,Re⟩
 ·rintro k w ⟨hk,Ef,M1,hJ,Re⟩;refine aj (aj ?_);obtain⟨gb2,Jl,xG,qY⟩:=DF _ _ _ hJ;by_cases Rf:eC (lu s.2.2.1 ls (dd e.1)) (k:Int)<2147483648
  ·obtain⟨d,ps,hx,Jb⟩:∃d ps,(lu s.2.2.1 ls (dd e.1))[k]? =some (d,ps)∧eC (lu s.2.2.1 ls (dd e.1)) (k:Int)=d:=by
    rcases jb (lu s.2.2.1 ls (dd e.1)) (k:Int)with⟨h0,_⟩|⟨j2,d2,ps2,pQ,Sf,h3,_⟩|⟨h0,h1,_⟩
    ·omega
    ·have:j2=k:=by omega
     subst this;exact⟨d2,ps2,Sf,h3⟩
    ·omega
   have Ct:=(av.1 hx).1;apply T.draw (M:=M1) mixed [b8.eq _,b8.eq _,b8.eq (.bool true),b8.eq v0,b8.eq _,b8.eq (.int .i64 (vI s.2.1 (eC (lu s.2.2.1 ls (dd e.1)) (k:Int)))),b8.ptr (RT.int .i64) e.2,b8.eq (.int .i64 e.2),b8.eq _,b8.eq _]
   ·rfl
   ·refine aK ?_ ?_
    ·intro wD E sD;refine ae rfl rfl ?_;exact ad ⟨rfl,rfl,_,rfl,rfl,an _ _⟩
    refine aK ?_ ?_
    ·intro wD E sD;refine aw (cd rfl rfl rfl ?_);exact ad ⟨rfl,rfl,_,rfl,rfl,an _ _⟩
    refine aK ?_ ?_
    ·intro wD E sD;refine aw (ae rfl rfl ?_);refine ad ⟨rfl,rfl,_,rfl,?_,an _ _⟩;exact congrArg Value.bool (decide_eq_true Rf)
    refine aK ?_ ?_
    ·intro wD E sD;refine aw (al rfl rfl (aE Tryz.underlying25 rfl rfl rfl (sD.aI gb2) rfl ?_));exact ad ⟨rfl,rfl,_,rfl,rfl,an _ _⟩
    refine aK ?_ ?_
    ·intro wD E sD;refine aw (al rfl rfl (ae rfl rfl ?_));exact ad ⟨rfl,rfl,_,rfl,rfl,an _ _⟩
    refine aK ?_ ?_
    ·intro wD E sD;refine aw (aw (aw (aw (al rfl rfl ?_))));refine aP rfl rfl Sz (vK _ (xG.le (by decide) sD.le)) (fun r5 w5 hc=>?_);obtain⟨rfl,rfl⟩:=hc;exact ad ⟨rfl,rfl,_,rfl,rfl,an _ _⟩
    refine aK ?_ ?_
    ·intro wD E sD;refine aw (al rfl rfl ?_);refine aH (M:=M1) (A:=RT.er) (B:=RT.int .i64) kR rfl rfl I3 (by decide) XV rfl rfl (by decide) qY sD.le (fun uf xr=>?_);exact ad ⟨rfl,rfl,_,rfl,xr,an _ _⟩
    refine aK ?_ ?_
    ·intro wD E sD;intro v6 nR;refine aw (al rfl rfl ?_);refine cc (M:=M1) ar rfl rfl (show ch (RT.int .i64) M1 wD v6 e.2 from nR) (aq _ _) (fun lr=>?_);exact ad ⟨rfl,rfl,_,rfl,rfl,an _ _⟩
    refine aK ?_ ?_
    ·intro wD E sD;refine aw (aw (aw (al rfl rfl (cd rfl rfl rfl ?_))));exact ad ⟨rfl,rfl,_,rfl,rfl,an _ _⟩
    refine aK ?_ ?_
    ·intro wD E sD;refine aw (aw (aR rfl rfl rfl ?_));exact ad ⟨rfl,rfl,_,rfl,rfl,an _ _⟩
    exact bX.nil
   ·intro wD2 Df;refine aw (aw (aw (aw (aw (aw ?_)))));intro aeT aaQ;refine aw (aw (aw ?_));have Ha:=iy _ _ _ _ _ _ hJ Df (fun b h=>h.elim);have XX:=Re.step Df (fun h=>h);refine bI rfl (fun c2=>?_) (fun c2=>?_)
    ·refine aV (aj (bj (aj (ah (ae rfl rfl (ae rfl rfl ?_))))));refine Rg.yield rfl (vs:=[.int .i64 (eC (lu s.2.2.1 ls (dd e.1)) (k:Int))]) rfl rfl (hy k M1 _ _ Ha (by rw[Jb];exact J0 Ef (by rw[ey,hx];rfl) (by rw[←Jb];simpa using c2))) (fun r4 w5 h5=>?_);obtain⟨b,rfl,Nv,nH⟩:=h5;refine Rg.not rfl rfl (bz (v':= .bool (decide (¬b=true))) (by simp) (ad ?_));refine bI rfl (fun c4=>?_) (fun c4=>?_)
     ·refine aJ ?_;exact Bz rfl (.inr (nH (by simpa using c4)))
     ·refine aV (ah (ae rfl rfl ?_));obtain⟨M2,N2,Sw,s4,hN4⟩:=Nv (dV.1 c4);have hC4:=XX.step s4 (fun h=>by obtain⟨_,_,_,_,_,h9,_⟩:=XX;exact hN4 _ h _ h9);obtain⟨_,Mv,_,_⟩:=DF _ _ _ Sw;refine aP rfl rfl E96 (vL hC4 Mv xM.may xM.ps xM.by_ xM.ln) (fun r6 w6 h=>?_);obtain⟨rfl,s6,hC6⟩:=h;have hJ6:=iy _ _ _ _ _ _ Sw s6 (fun b (h:b=bc)=>⟨by omega,fun _=>by(obtain⟨_,_,_,_,_,h9,_⟩:=hC4;exact⟨_,by rw[h];exact h9⟩)⟩);have Jd:pz (lu s.2.2.1 ls (dd e.1)) (k:Int)=((k+1:Nat):Int):=by unfold pz;rw[if_pos (by omega)];rfl
      rw[Jd]at hC6 ⊢;refine ai rfl rfl (ad ?_);refine⟨rfl,k+1,(.cons rfl (.cons rfl (.cons rfl (.cons rfl (.cons rfl .nil))))),?_,?_⟩
      ·exact⟨by omega,fun j x hj XY=>by
        rcases cK j k with h|h
        ·exact Ef j x h XY
        ·rw[show j=k by omega,ey,hx]at XY;cases XY;rw[←Jb];simpa using c2,_,hJ6,hC6⟩
      ·omega
    ·refine cN ?_
     first|refine fC.nil ?_|simp+decide only[rB,kB,if_true,if_false]|skip
     have el:(me (lu s.2.2.1 ls (dd e.1)) s.2.1 e.2).length=k:=Bj Ef (by rw[db];exact hk) (fun d' BE=>by
      rw[ey]at BE;obtain⟨p,hp,rfl⟩:=Option.map_eq_some_iff.1 BE;have XZ:eC (lu s.2.2.1 ls (dd e.1)) (k:Int)=p.1:=gQ hp
      first
      |(rw[XZ]at c2;simpa using c2)
      |(have:=lK xM.may hp;omega))
     exact gI rfl (.inl ⟨_,by rw[el];exact Ha⟩)
  ·apply T.draw (M:=M1) mixed [b8.eq _,b8.eq _,b8.eq (.bool false),b8.eq undef,b8.eq undef,b8.eq undef,b8.eq undef,b8.eq undef,b8.eq undef,b8.eq _]
   ·rfl
   ·refine aK ?_ ?_
    ·intro wD E sD;refine ae rfl rfl ?_;exact ad ⟨rfl,rfl,_,rfl,rfl,an _ _⟩
    refine aK ?_ ?_
    ·intro wD E sD;refine aw (cd rfl rfl rfl ?_);exact ad ⟨rfl,rfl,_,rfl,rfl,an _ _⟩
    refine aK ?_ ?_
    ·intro wD E sD;refine aw (ae rfl rfl ?_);refine ad ⟨rfl,rfl,_,rfl,?_,an _ _⟩;exact congrArg Value.bool (decide_eq_false Rf)
    refine aK ?_ ?_
    ·intro wD E sD;refine aw ?_;exact ao rfl rfl rfl rfl (ad ⟨rfl,rfl,_,rfl,rfl,an _ _⟩)
    refine aK ?_ ?_
    ·intro wD E sD;refine aw ?_;exact ao rfl rfl rfl rfl (ad ⟨rfl,rfl,_,rfl,rfl,an _ _⟩)
    refine aK ?_ ?_
    ·intro wD E sD;refine aw (aw (aw (aw ?_)));exact ao rfl rfl rfl rfl (ad ⟨rfl,rfl,_,rfl,rfl,an _ _⟩)
    refine aK ?_ ?_
    ·intro wD E sD;refine aw ?_;exact ao rfl rfl rfl rfl (ad ⟨rfl,rfl,_,rfl,rfl,an _ _⟩)
    refine aK ?_ ?_
    ·intro wD E sD;refine aw (aw ?_);exact ao rfl rfl rfl rfl (ad ⟨rfl,rfl,_,rfl,rfl,an _ _⟩)
    refine aK ?_ ?_
    ·intro wD E sD;refine aw (aw (aw ?_));exact ao rfl rfl rfl rfl (ad ⟨rfl,rfl,_,rfl,rfl,an _ _⟩)
    refine aK ?_ ?_
    ·intro wD E sD;refine aw (aw (ax rfl rfl rfl ?_));exact ad ⟨rfl,rfl,_,rfl,rfl,an _ _⟩
    exact bX.nil
   ·intro wD2 Df;refine aw (aw (aw (aw (aw (aw (aw (aw (aw (aw ?_)))))))));have Ha:=iy _ _ _ _ _ _ hJ Df (fun b h=>h.elim);have XX:=Re.step Df (fun h=>h);refine hY rfl (cN ?_)
    first|refine fC.nil ?_|simp+decide only[rB,kB,if_true,if_false]|skip
    have el:(me (lu s.2.2.1 ls (dd e.1)) s.2.1 e.2).length=k:=Bj Ef (by rw[db];exact hk) (fun d' BE=>by
     rw[ey]at BE;obtain⟨p,hp,rfl⟩:=Option.map_eq_some_iff.1 BE;have XZ:eC (lu s.2.2.1 ls (dd e.1)) (k:Int)=p.1:=gQ hp
     first
     |(rw[XZ]at c2;simpa using c2)
     |(have:=lK xM.may hp;omega))
    exact gI rfl (.inl ⟨_,by rw[el];exact Ha⟩)
end Go.K
namespace Go.K
open Go.Proofs
namespace TKErsC
theorem xN:TI Tryz.prog 51 (.agg #[(.string ⟨#[]⟩),(.string ⟨#[]⟩),(.int .i64 0)]) 3 40:=by unfold TI;kernel_rfl
theorem E71:Enters Tryz.prog 71:=enters Tryz.func71 rfl (by decide)
theorem X0:Enters Tryz.prog 72:=enters Tryz.func72 rfl (by decide)
theorem X1:Enters Tryz.prog 121:=enters Tryz.func121 rfl (by decide)
theorem MP:Enters Tryz.prog 122:=enters Tryz.func122 rfl (by decide)
end TKErsC
open TKErsC
set_option maxRecDepth 10000
def Bk (K:aA→World→Prop) (C:TypeId) (gf:FuncId) (lb:Array Value) (xs:List Int):Prop:=
 ∀{yl:Nat} {J:Nat→aA→World→Prop} {M:aA} {Jx:World→Prop} (w0:World) (_:∀i M w,J i M w→Lt M w∧K M w)
  (_:∀i M w M' w' N,J i M w→Step M w M' w' N→(∀b,N b→w0.heap.size≤b∧(b<w.heap.size→∃cs,w.heap[b]? =some (.cells cs C (0,0))))→J i M' w')
  (_:∀(i:Nat) (M:aA) (w:World) (d:Int),J i M w→xs[i]? =some d→qA Tryz.prog yl [.int .i64 d].toArray w (fun r w'=>∃b,r= .bool b∧(b=true→∃M' N,J (i+1) M' w'∧Step M w M' w' N∧∀k,N k→∀cs,w.heap[k]? ≠some (.cells cs C (0,0)))∧(b=false→Jx w'))) (_:J 0 M w0),
  Spec Tryz.prog gf (#[.func (.yield yl) #[] #[]]++lb) w0 (fun _ w=>(∃M',J xs.length M' w)∨Jx w)
structure zA {α:Type} (A:RT α) (e T C:TypeId) (K:aA→World→Prop) (M:aA) (w0:World) (bo D:Nat) (st:Loop) (vo:Value) (xs:List α) (M':aA) (w:World):Prop where
 lt:Lt M' w
 S:Step M w0 M' w aC
 o:w.heap[bo]? =some (.cells #[vo] T (0,0))
 mo:M' bo
 r:w.heap[D+1]? =some (.loop st)
 mr:M' (D+1)
 d:w.heap[D]? =some (.deferred (some []))
 md:M' D
 own:Own A e M' w w0.heap.size vo xs
 k:K M' w
 z:w0.heap.size≤bo∧w0.heap.size≤D
section
variable {α:Type} {A:RT α} {e T C:TypeId} {K:aA→World→Prop} {M M1 M2 N:aA} {w0 w w':World} {bo D:Nat} {st:Loop} {vo:Value} {xs:List α}
theorem zA.GI (hK:∀{M w M' w'},K M w→Le M w M' w'→K M' w') (h1:C≠e) (h2:C≠T) (h:zA A e T C K M w0 bo D st vo xs M1 w) (s:Step M1 w M2 w' N) (hN:∀b,N b→w0.heap.size≤b∧(b<w.heap.size→∃cs,w.heap[b]? =some (.cells cs C (0,0)))):zA A e T C K M w0 bo D st vo xs M2 w':=by
 have n1: ¬N bo:=fun hn=>by obtain⟨cs,hc⟩:=(hN _ hn).2 (ak h.o);rw[h.o]at hc;injection hc with hc;injection hc with _ hc;exact h2 hc.symm
 have n2: ¬N (D+1):=fun hn=>by obtain⟨cs,hc⟩:=(hN _ hn).2 (ak h.r);rw[h.r]at hc;cases hc
 have n3: ¬N D:=fun hn=>by obtain⟨cs,hc⟩:=(hN _ hn).2 (ak h.d);rw[h.d]at hc;cases hc
 refine⟨s.lt h.lt,h.S.cu s (fun k hk=>(hN k hk).1),s.bF h.o n1,(s.mem _ (ak h.o)).2 h.mo,s.bF h.r n2,(s.mem _ (ak h.r)).2 h.mr,s.bF h.d n3,(s.mem _ (ak h.d)).2 h.md,h.own.step s (fun b hb hn=>?_),hK h.k s.le,h.z⟩;obtain⟨cs,hc⟩:=h.own.isCells hb;obtain⟨G4,xO⟩:=(hN _ hn).2 (ak hc);rw[hc]at xO;injection xO with xO;injection xO with _ xO;exact h1 xO.symm
theorem zA.bg (hK:∀{M w M' w'},K M w→Le M w M' w'→K M' w') (h:zA A e T C K M w0 bo D st vo xs M1 w) (s:Step M1 w M2 w' aC):zA A e T C K M w0 bo D st vo xs M2 w':=
 ⟨s.lt h.lt,h.S.ay s,s.aI h.o,(s.mem _ (ak h.o)).2 h.mo,s.aI h.r,(s.mem _ (ak h.r)).2 h.mr,s.aI h.d,(s.mem _ (ak h.d)).2 h.md,h.own.bg s,hK h.k s.le,h.z⟩
theorem zA.mu (hK:∀{M w M' w'},K M w→Le M w M' w'→K M' w') {st':Loop} (h:zA A e T C K M w0 bo D st vo xs M1 w):zA A e T C K M w0 bo D st' vo xs M1 (w.putObj (D+1) (.loop st')):=by
 have s:Step M1 w M1 (w.putObj (D+1) (.loop st')) (fun k=>k=D+1):=dG h.mr;obtain⟨z1,z2⟩:=h.z;refine⟨s.lt h.lt,h.S.cu s (fun k (hk:k=D+1)=>by omega),s.bF h.o (fun(hn:bo=D+1)=>by have h1:=h.o;rw[hn,h.r]at h1;cases h1),h.mo,World.putObj_heap_same (ak h.r),h.mr,s.bF h.d (fun(hn:D=D+1)=>by omega),h.md,h.own.step s (fun b hb (hn:b=D+1)=>?_),hK h.k s.le,h.z⟩;obtain⟨cs,hc⟩:=h.own.isCells hb;rw[hn,h.r]at hc;cases hc
theorem zA.grow (hK:∀{M w M' w'},K M w→Le M w M' w'→K M' w') {X2:Value} {xs':List α} (hT:T≠e) (h:zA A e T C K M w0 bo D st vo xs M1 w) (s:Step M1 w M2 w' (iT vo)) (ho:Own A e M2 w' w0.heap.size X2 xs'):
  (w'.heap[bo]? =some (.cells #[vo] T (0,0))∧M2 bo)∧∀{w2:World},Step M2 w' M2 w2 (fun k=>k=bo)→w2.heap[bo]? =some (.cells #[X2] T (0,0))→zA A e T C K M w0 bo D st X2 xs' M2 w2:=by
 obtain⟨z1,z2⟩:=h.z
 have MQ:∀{b:Nat} {o:Obj},w.heap[b]? =some o→(∀cs fr,o≠ .cells cs e fr)→¬iT vo b:=fun {b o} hb eG hn=>by
  obtain⟨⟨C,h1,_⟩,_⟩:=h.own;rcases h1.2 with h3|⟨g,cap,cur,h3,h4,h5,_⟩
  ·unfold iT at hn;rw[h3.1]at hn;cases hn
  ·unfold iT at hn;rw[h3]at hn;cases hn;rw[hb]at h5;exact eG _ _ (bM h5)
 have fR:=s.bF h.o (MQ h.o (fun cs fr hc=>by injection hc with _ h1 _;exact hT h1));have hr:=s.bF h.r (MQ h.r (fun cs fr hc=>by cases hc));have hd:=s.bF h.d (MQ h.d (fun cs fr hc=>by cases hc));have PT:=(s.mem _ (ak h.o)).2 h.mo;refine⟨⟨fR,PT⟩,fun {w2} s2 hx=>⟨s2.lt (s.lt h.lt),(h.S.dh s h.own (bh _)).cu s2 (fun k (hk:k=bo)=>by omega),hx,PT,s2.bF hr (fun(hn:D+1=bo)=>by rw[hn,fR]at hr;cases hr),(s.mem _ (ak h.r)).2 h.mr,s2.bF hd (fun(hn:D=bo)=>by rw[hn,fR]at hd;cases hd),(s.mem _ (ak h.d)).2 h.md,ho.step s2 (fun b hb (hn:b=bo)=>ho.eL fR hT (by rw[←hn];exact hb)),hK (hK h.k s.le) s2.le,h.z⟩⟩
end
theorem zA.told {α:Type} {A:RT α} {e T C:TypeId} {K:aA→World→Prop} {M M1 M5 M6:aA} {w0 w w4 w5 w6 w7 w8:World} {bo D:Nat} {st:Loop} {vo:Value} {xs:List α} (h1:C≠e) (h2:C≠T) (h:zA A e T C K M w0 bo D st vo xs M1 w) (s4:Step M1 w M1 w4 (fun k=>k=D+1)) (s5:Step M1 w4 M5 w5 aC) (s6:Step M5 w5 M6 w6 (iT vo)) (s7:Step M6 w6 M6 w7 (fun k=>k=bo)) (s8:Step M6 w7 M6 w8 (fun k=>k=D+1)):∃N,Step M1 w M6 w8 N∧∀k,N k→∀cs,w.heap[k]? ≠some (.cells cs C (0,0)):=by
 refine⟨fun b=>b=D+1∨iT vo b∨b=bo,((((s4.cb (fun b hb=> .inl hb) (fun b hb=>?_)).ay s5).trans s6 (fun b _ hb=> .inr (.inl hb))).trans s7 (fun b _ hb=> .inr (.inr hb))).trans s8 (fun b _ hb=> .inl hb),fun k hk cs hc=>?_⟩
 ·rcases hb with rfl|hb|rfl
  ·exact h.mr
  ·exact h.own.mut_ _ hb
  ·exact h.mo
 ·rcases hk with rfl|hk|rfl
  ·rw[h.r]at hc;cases hc
  ·obtain⟨G4,xO⟩:=h.own.isCells hk;rw[hc]at xO;injection xO with xO;injection xO with _ xO;exact h1 xO
  ·rw[h.o]at hc;injection hc with hc;injection hc with _ hc;exact h2 hc.symm
theorem Rh {α:Type} {A:RT α} {e T C:TypeId} {K:aA→World→Prop} {M M1:aA} {w0 w:World} {bo:Nat} {st:Loop} (hK:∀{M w M' w'},K M w→Le M w M' w'→K M' w') (hM:Lt M1 w) (S:Step M w0 M1 w aC) (go:w.heap[bo]? =some (.cells #[.slice none 0 0] T (0,0))) (mo:M1 bo) (hk:K M1 w) (hbo:w0.heap.size≤bo):
  ∃M',zA A e T C K M w0 bo w.heap.size st (.slice none 0 0) [] M' ((w.alloc (.deferred (some []))).alloc (.loop st)):=by
 have sA:Step M1 w (ins M1 w.heap.size) (w.alloc (.deferred (some []))) aC:=(cU M1 w _).own (bh _) (by simp);have sB:Step (ins M1 w.heap.size) (w.alloc (.deferred (some []))) (ins (ins M1 w.heap.size) (w.heap.size+1)) ((w.alloc (.deferred (some []))).alloc (.loop st)) aC:=(cU _ _ _).own (by simp) (by simp);have hD:(w.alloc (.deferred (some []))).heap[w.heap.size]? =some (.deferred (some [])):=cq w _;have hR:((w.alloc (.deferred (some []))).alloc (.loop st)).heap[w.heap.size+1]? =some (.loop st):=by have:=cq (w.alloc (.deferred (some []))) (.loop st);rwa [World.size_alloc]at this
 exact⟨_,sB.lt (sA.lt hM),(S.ay sA).ay sB,sB.aI (sA.aI go),.inr (.inr mo),hR,.inl rfl,sB.aI hD,.inr (.inl rfl),ec _ _ _ _ _,hK (hK hk sA.le) sB.le,hbo,S.size⟩
theorem Dk {K:aA→World→Prop} {gf:FuncId} {lb:Array Value} {xs:List Int} {M:aA} (w0:World) (hM:Lt M w0) (he:Enters Tryz.prog gf) (hG:Bk K 216 gf lb xs) (hK:∀{M w M' w'},K M w→Le M w M' w'→K M' w') (hk:K M w0) (I4:∀x∈xs,-9223372036854775808≤x∧x≤9223372036854775807) (uJ:xs.length≤1099511627776):
  Spec Tryz.prog 121 #[.slice none 0 0,.func (.func gf) #[] lb] w0 (fun v w=>((RT.int .i64).sl).V M w xs v∧Step M w0 M w aC):=by
 have jH:=hM;refine mN (args:=[_,_]) (fn:=Tryz.f121) Tryz.func121 rfl (n:=13) Tryz.ntmps121 ?_;have S:Step M w0 M w0 aC:=(an _ _).cb (fun _ h=>h.elim) (fun _ h=>h.elim);refine aj (ah ?_);refine oN M rfl rfl (fun xw II Xx Xy lZ zt=>?_);obtain⟨zu,tz⟩:∃M',M'=ins M xw:=⟨_,rfl⟩;rw[←tz]at zt;have nq:zu xw:=by rw[tz];exact .inl rfl
 change II.heap[xw]? =some (.cells #[.slice none 0 0] _ _)at lZ;replace hM:=zt.lt hM;have:=S.size;replace S:=S.ay zt;refine ai rfl rfl (ad (aj (aj (ah (ae rfl rfl (ad (bj ?_)))))));refine T.range (gf:=gf) (lb:=lb) rfl he (fun rec mM=>?_);obtain⟨D,hD⟩:∃D,D=II.heap.size:=⟨_,rfl⟩;obtain⟨Mr,h0⟩:=Rh (A:=RT.int .i64) (e:=3) (C:=216) (st:=rec .ready none) hK hM S lZ nq (hK hk S.le) (by omega);rw[←hD]at mM h0 ⊢;refine Spec.mono (hG (M:=Mr) (J:=fun i M' w=>∃vo,zA (RT.int .i64) 3 32 216 K M w0 xw D (rec .ready none) vo (xs.take i) M' w) (Jx:=fun _=>False) _ (fun i M' w ⟨vo,h⟩=>⟨h.lt,h.k⟩) (fun i M' w M2 w2 N ⟨vo,h⟩ s hN=>⟨vo,h.GI hK (by decide) (by decide) s (fun b hb=>⟨by have h1:=(hN b hb).1;have h2:=h.z.2;simp at h1;omega,(hN b hb).2⟩)⟩) (fun i M' wr x hJ hx=>?_) ⟨_,h0⟩) (fun _ w3 h3=>?_)
 ·obtain⟨vo,h⟩:=hJ;refine kZ (ps:=[7]) (vs:=[.int .i64 x]) mM h.r rfl (by decide) (ah (ai rfl rfl (ad ?_)));refine⟨rfl,h.r,?_⟩;have h4:=h.mu hK (st':=rec .busy none);have s4:Step M' wr M' (wr.putObj (D+1) (.loop (rec .busy none))) (fun k=>k=D+1):=dG h.mr;generalize wr.putObj (D+1) _=w4 at h4 s4 ⊢;refine bj (ah (aE au rfl rfl rfl h4.o rfl (bz (v':=vo) rfl (ae rfl rfl ?_))));refine eQ (A:=RT.int .i64) (hn:=by decide) (M:=M') au I3 (by decide) rfl rfl h4.lt (BA.2 ⟨rfl,I4 x (aL hx)⟩) (.inr ⟨rfl,rfl⟩) (fun u5 w5 Am s5=>?_);have h6:=h4.bg hK s5;have mf:=(av.1 hx).1;refine cO (M:=M') (base:=w0.heap.size) au I3 rfl rfl rfl rfl h6.own Am (aq _ _) (by simp;omega) (by simp;omega) h6.S.size (fun v6 M6 w6 qI s6=>?_);obtain⟨⟨X3,X4⟩,G3⟩:=h6.grow hK (by decide) s6 qI;refine bQ (M:=M6) nF rfl rfl X3 rfl (by obtain⟨_,_,he,_⟩:=qI.isSlice;rw[he];rfl) X4 (fun w7 g7 s7=>?_);refine ad ?_;have h8:=(G3 s7 g7).mu hK (st':=rec .ready none);obtain⟨N,hN1,hN2⟩:=h.told (by decide) (by decide) s4 s5 s6 s7 (dG (o:= .loop (rec .ready none)) (G3 s7 g7).mr);exact⟨(G3 s7 g7).r,true,rfl,fun _=>⟨M6,N,⟨v6,by rw[cg,hx,cZ];exact h8⟩,hN1,hN2⟩,fun h=>by cases h⟩
 ·obtain⟨M',vo,h⟩:=h3.resolve_right id;left;refine⟨h.r,?_⟩;have h5:=h.mu hK (st':=rec .exhausted none);generalize w3.putObj (D+1) _=wE at h5 ⊢;refine aj (ah (aE au rfl rfl rfl h5.o rfl (bz (v':=vo) rfl (ai rfl rfl (ad (aJ ?_))))));have sE:Step M' wE M' (wE.putObj D (.deferred none)) (fun k=>k=D):=dG h5.md;have hz:=h5.z;have hS:=h5.S.cu sE (fun k (hk:k=D)=>by omega)
  have ho:=h5.own.step sE (fun b hb (hn:b=D)=>by
   obtain⟨cs,hc⟩:=h5.own.isCells hb;rw[hn,h5.d]at hc;cases hc)
  rw[bp (bh _)]at ho;exact Aa rfl rfl h5.d ⟨ho.close jH hS (by omega),hS.back⟩
theorem Bm {K:aA→World→Prop} {gf:FuncId} {lb:Array Value} {xs:List Int} {M:aA} (w0:World) (hM:Lt M w0) (he:Enters Tryz.prog gf) (hG:Bk K 216 gf lb xs) (hK:∀{M w M' w'},K M w→Le M w M' w'→K M' w') (hk:K M w0) (I4:∀x∈xs,-9223372036854775808≤x∧x≤9223372036854775807) (uJ:xs.length≤1099511627776):
  Spec Tryz.prog 71 #[.func (.func gf) #[] lb] w0 (fun v w=>((RT.int .i64).sl).V M w xs v∧Step M w0 M w aC):=by
 refine aX (args:=[_]) (fn:=Tryz.f71) Tryz.func71 rfl (n:=5) Tryz.ntmps71 (aj (ah (ai rfl rfl (ad (aj (ah (ae rfl rfl ?_)))))));refine aP rfl rfl X1 (Dk _ hM he hG hK hk I4 uJ) (fun r wc hc=>?_);obtain hc:=hc;refine ai rfl rfl (ad (aJ ?_));exact aO rfl rfl hc
theorem GK {α:Type} {p:α→Bool}:∀{xs:List α} {x:α},x∈xs.takeWhile p→p x=true
 |[],_,h=>by cases h
 |y::xs,x,h=>by
  rw[tP]at h
  split at h
  ·rename_i hp
   rcases dw.1 h with rfl|h
   ·exact hp
   ·exact GK h
  ·cases h
theorem GL {l:List Po} {sq:List Int} {t d:Int} (h:d∈me l sq t):∃p∈l,p.1=d∧vI sq d<t:=by
 have h1:=GK h;obtain⟨p,hp,rfl⟩:=cF.1 ((List.takeWhile_sublist _).subset h);exact⟨p,hp,rfl,by simpa using h1⟩
theorem Dl (l:List Po) (sq:List Int) (t:Int):(me l sq t).length≤l.length:=by
 have:=(List.takeWhile_sublist (l:=l.map (·.1)) (fun d=>decide (vI sq d<t))).length_le
 rwa [db]at this
theorem qV {s:Se} {ls:List (List Po)} {e:Er} {v0 u:Value} {bs:Nat} (xv:xi s.2.2.1) (DD:s.2.2.2=ls.map gJ) (IN:s.2.2.1.length=ls.length) (xM:IP (lu s.2.2.1 ls (dd e.1))) (h1:e.1.1.length≤140737488355328) (h2:e.1.2.length≤140737488355328):
  Bk (fun M w=>w.heap[bs]? =some (.cells #[v0] 25 (0,0))∧¬M bs∧ch RT.se M w v0 s∧ch RT.er M w u e) 216 122 #[.pointer (some ⟨bs,0,none⟩),u] (me (lu s.2.2.1 ls (dd e.1)) s.2.1 e.2):=
 fun w0 hk iy hy h0=>zz w0 xv DD IN xM h1 h2 (fun i M w h=>⟨(hk i M w h).2.1,(hk i M w h).1,(hk i M w h).2.2.2.1,(hk i M w h).2.2.2.2⟩) iy hy h0
theorem nr {s:Se} {e:Er} {v0 u:Value} {bs:Nat} {M M':aA} {w w':World} (h:w.heap[bs]? =some (.cells #[v0] 25 (0,0))∧¬M bs∧ch RT.se M w v0 s∧ch RT.er M w u e) (l:Le M w M' w'):w'.heap[bs]? =some (.cells #[v0] 25 (0,0))∧¬M' bs∧ch RT.se M' w' v0 s∧ch RT.er M' w' u e:=
 have hb:=l bs (ak h.1) h.2.1
 ⟨hb.2.trans h.1,hb.1,h.2.2.1.le (by decide) l,h.2.2.2.le (by decide) l⟩
theorem Bn {M:aA} {s:Se} {ls:List (List Po)} {e:Er} {v0 ve:Value} (w0:World) (hM:Lt M w0) (hs:ch RT.se M w0 v0 s) (he:RT.er.V M w0 e ve) (xv:xi s.2.2.1) (DD:s.2.2.2=ls.map gJ) (IN:s.2.2.1.length=ls.length) (xM:IP (lu s.2.2.1 ls (dd e.1))):
  Spec Tryz.prog 24 #[v0,ve] w0 (fun v w=>((RT.int .i64).sl).V M w (me (lu s.2.2.1 ls (dd e.1)) s.2.1 e.2) v∧Step M w0 M w aC):=by
 obtain⟨eve,⟨Ot,Dx⟩,Dy⟩:=GG he;refine aX (args:=[_,_]) (fn:=Tryz.f24) Tryz.func24 rfl (n:=9) Tryz.ntmps24 ?_;have S:Step M w0 M w0 aC:=(an _ _).cb (fun _ h=>h.elim) (fun _ h=>h.elim);refine aj (ah ?_);refine kd (A:=RT.er) (a:=e) rfl rfl hM he rfl (fun u0 w1 cz s0 _=>?_);replace hs:=hs.le (by decide) s0.le;replace he:=he.le s0.le;replace hM:=s0.lt hM;have:=S.size;replace S:=S.ay s0;refine ai rfl rfl (ad (aj (ah (ae rfl rfl ?_))));refine cC (M:=M) (A:=RT.er) kR rfl xN (by decide) rfl rfl rfl cz (aq _ _) (fun vt DH=>?_);refine aP rfl rfl X0 (tB _ hM hs DH) (fun r2 w2 hc=>?_);obtain⟨bs,u,rfl,Fo,hu,Su,s2⟩:=hc;have X5:=nr (M:=M) (M':=M) ⟨Fo,fun h=>by have:=hM _ h;omega,hs.le (by decide) s2.le,hu⟩ (aq _ _);replace hs:=hs.le (by decide) s2.le;replace he:=he.le s2.le;replace cz:=cz.le (by decide) s2.le;replace hM:=s2.lt hM;have:=S.size;replace S:=S.ay s2;refine aP rfl rfl E71 (Bm _ hM MP (qV xv DD IN xM Ot Dx) nr X5 (fun x hx=>by obtain⟨p,hp,rfl,_⟩:=GL hx;obtain⟨i,hi⟩:=bO.1 hp;have:=lK xM.may hi;omega) (by have:=Dl (lu s.2.2.1 ls (dd e.1)) s.2.1 e.2;have:=xM.ln;omega)) (fun r3 w3 hc=>?_);obtain⟨MR,s3⟩:=hc;replace hs:=hs.le (by decide) s3.le;replace he:=he.le s3.le;replace cz:=cz.le (by decide) s3.le;replace hM:=s3.lt hM;have:=S.size;replace S:=S.ay s3;refine ai rfl rfl (ad (aJ ?_));exact aO rfl rfl ⟨MR,S⟩
end Go.K
namespace Go.K
open Go.Proofs
namespace TKBldJ
theorem NS:TI Tryz.prog 56 (.slice none 0 0) 1 24:=by unfold TI;kernel_rfl
theorem Sx:TI Tryz.prog 58 (.agg #[(.slice none 0 0),(.slice none 0 0),(.slice none 0 0),(.slice none 0 0)]) 4 96:=by unfold TI;kernel_rfl
theorem jE:TI Tryz.prog 107 (.slice none 0 0) 1 24:=by unfold TI;kernel_rfl
theorem E27:Enters Tryz.prog 27:=enters Tryz.func27 rfl (by decide)
theorem E56:Enters Tryz.prog 56:=enters Tryz.func56 rfl (by decide)
theorem E57:Enters Tryz.prog 57:=enters Tryz.func57 rfl (by decide)
theorem E58:Enters Tryz.prog 58:=enters Tryz.func58 rfl (by decide)
theorem E59:Enters Tryz.prog 59:=enters Tryz.func59 rfl (by decide)
end TKBldJ
open TKBldJ
set_option maxRecDepth 10000
set_option maxHeartbeats 4000000 in
theorem tC {M:aA} {L:List En} {v0:Value} (w0:World) (hM:Lt M w0) (hv:(RT.en.sl).V M w0 L v0) (hl:∀e∈L,∀f∈e.1.2,f.1.length≤900000∧f.2.length≤900000) (hn:L.length≤100000) (fv:zq (-1) L=true):
  Spec Tryz.prog 15 #[v0] w0 (fun v w=>∃s,v= .tuple #[s,.int .i64 0]∧ch RT.se M w s (Gq (ix L))∧Step M w0 M w aC):=by
 have jH:=hM;have hF:=np fv
 have V6:(keysOf L).length≤500000000:=by
  have h1:=(jC L).nodup.length_le_of_subset (l₂:=gy L) (fun x hx=>j9.1 hx);have:=qg hF;omega
 have H9:∀k∈keysOf L,k.length≤43:=fun k hk=>qO hF k (j9.1 hk)
 refine aX (args:=[_]) (fn:=Tryz.f15) Tryz.func15 rfl (n:=63) Tryz.ntmps15 ?_;have S:Step M w0 M w0 aC:=(an _ _).cb (fun _ h=>h.elim) (fun _ h=>h.elim);refine aj (ah (ai rfl rfl (ai rfl rfl (ad (aj (ah ?_))))));refine aP rfl rfl E56 (FR (Z:=fun k=>w0.heap.size≤k) (B:=w0.heap.size) _ hM (bh _) (fun k hk=>hk)) (fun r1 w1 hc=>?_);obtain⟨M1,b1,rfl,_,fp,s1⟩:=hc;replace fp:=fp.C4 (Z':=fun k=>w0.heap.size≤k∧k<w1.heap.size) (fun c hc dB=>⟨hc,dB⟩);replace hv:=hv.le s1.le;replace hM:=s1.lt hM;have:=S.size;replace S:=S.ay s1;refine ai rfl rfl (ad (aj (ah ?_)));refine eX M1 Sx rfl (fun eY HO UH UI yx sF=>?_);obtain⟨EH,sG⟩:∃M',M'=ins M1 eY:=⟨_,rfl⟩;rw[←sG]at sF;have sH:EH eY:=by rw[sG];exact .inl rfl
 change HO.heap[eY]? =some (.cells #[.slice none 0 0,.slice none 0 0,.slice none 0 0,.slice none 0 0] _ _)at yx;replace hv:=hv.le sF.le;replace fp:=fp.bg sF;replace hM:=sF.lt hM;have:=S.size;replace S:=S.ay sF;refine ad (aj (aj (ah (ae rfl rfl (bT gg rfl hv rfl (ae rfl rfl (ad (bj ?_))))))));refine dF (σ:=Nat×Value×Value) (fun q=>[(4,.pointer (some ⟨b1,0,none⟩)),(5,.pointer (some ⟨eY,0,none⟩)),(12,v0),(13,.int .i64 (L.length:Int)),(14,.int .i64 (q.1:Int))]) (fun q w=>∃M' words,Lt M' w∧Step M w0 M' w aC∧(RT.en.sl).V M' w L v0∧ll (ZP w0.heap.size eY q.2.1 q.2.2) M' w w0.heap.size b1 (L.take q.1) words (ky (-1) (L.take q.1))∧w.heap[eY]? =some (.cells #[q.2.1,q.2.2,.slice none 0 0,.slice none 0 0] 58 (0,0))∧M' eY∧Own (RT.int .i64) 3 M' w w0.heap.size q.2.1 ((L.take q.1).map (·.1.1))∧Own (RT.int .i64) 3 M' w w0.heap.size q.2.2 ((L.take q.1).map (·.2))∧iC q.2.1 q.2.2∧0≤words∧words≤500*(q.1:Int)∧q.1≤L.length) (fun q=>L.length-q.1) (0,.slice none 0 0,.slice none 0 0) (.cons rfl (.cons rfl (.cons rfl (.cons rfl (.cons rfl .nil))))) ?_ ?_
 ·exact⟨_,0,hM,S,hv,fp.C4 (Z':=ZP w0.heap.size eY (.slice none 0 0) (.slice none 0 0)) (fun c hc dB=>⟨hc.1,(fun h=>by have:=hc.2;omega),(fun h=>by cases h),(fun h=>by cases h)⟩),yx,sH,ec _ _ _ _ _,ec _ _ _ _ _,iC.nil _,by omega,by omega,bH _⟩
 ·clear hM S hv fp;rintro⟨i,vi,vs⟩ w ⟨M2,words,hM,S,hv,fp,g2,cL,kM,kP,H7,V7,hw2,hi⟩;dsimp only at fp g2 kM kP H7 hw2 hi ⊢;refine aj (ah (cd rfl rfl rfl (ad (aj ?_))));refine bI rfl (fun c4=>?_) (fun c4=>?_)
  ·refine aV (aj (bj (aj (ah ?_))));refine dq (M:=M2) gg yk rfl rfl rfl hv (aq _ _) (by omega) (fun u5 e CM Am=>?_);rw[az]at CM;obtain⟨J1,MS⟩:=Gy fv CM;have hem:=aL CM;refine cC (M:=M2) (A:=RT.en) cP rfl yk (by decide) rfl rfl rfl Am (aq _ _) (fun v5 nS=>?_);obtain⟨NV,I2⟩:=MG nS;refine oc (A:=RT.en) (M:=M2) yk rfl rfl rfl rfl rfl (by assumption) (aq _ _) hM (fun Wu ae5 qP zB ae6=>?_);have:=ak g2;replace cL:=(zB.mem _ this).2 cL;replace g2:=zB.aI g2;replace hv:=hv.le zB.le;replace kM:=kM.bg zB;replace kP:=kP.bg zB;replace fp:=fp.bg zB;replace hM:=zB.lt hM;have:=S.size;replace S:=S.ay zB;refine ad (aj (aj (ah (ae rfl rfl ?_))));refine cC (M:=M2) (A:=RT.en) cP rfl yk (by decide) rfl rfl rfl qP (aq _ _) (fun v6 nR=>?_);refine aP rfl rfl E57 (FU (Z:=ZP w0.heap.size eY vi vs) _ hM (fun k hk=>⟨by have:=S.size;omega,fun h=>by have:=ak g2;omega,fun h=>by have:=(kM.base k h).2;omega,fun h=>by have:=(kP.base k h).2;omega⟩) fp (by have:=S.size;omega) nR (hl e hem) (fun x hx=>hF x (List.mem_of_mem_take hx)) (by simp;omega) (by omega)) (fun r6 w6 hc=>?_);obtain⟨M6,Gb,s6,rfl,_,Ky⟩:=hc;replace fp:=Ky J1;have JG:(oL e).length≤500:=(hF e hem).many;refine bz (v':= .int .i64 0) (by rw[J1]) ?_;replace kM:=kM.step s6 (fun c hc h=>h.1.2.2.1 hc);replace kP:=kP.step s6 (fun c hc h=>h.1.2.2.2 hc);replace cL:=(s6.mem _ (ak g2)).2 cL;replace g2:=s6.bF g2 (fun h=>h.1.2.1 rfl);replace hv:=hv.le s6.le;replace qP:=qP.le (by decide) s6.le;replace S:=S.cu s6 (fun k hk=>hk.1.1);replace hM:=Gb;rw[MS.symm]at fp;refine ai rfl rfl (ad (aj (ah (ae rfl rfl (eW rfl rfl rfl (ad (T.zR rfl ((fun h=>h rfl)) (aV ?_))))))));have SB:=g2;have Ri:=cL
   have XD:=hv;have Rj:=fp;have GM:=kM;have GN:=kP;have hMp:=hM;have Sp:=S;obtain⟨P6,X6⟩:∃P6:Value→World→Prop,P6=fun v w'=>Own (RT.int .i64) 3 (nE v) w' w0.heap.size v ((L.take i).map (·.1.1)++[e.1.1])∧(∀c,v.ownBlock=some c→w6.heap.size≤c∨vi.ownBlock=some c):=⟨_,rfl⟩
   have h6:∀{v:Value} {w w':World},P6 v w→Step M6 w M6 w' aC→P6 v w':=fun {v w w'} h s=>by rw[X6]at h ⊢;exact⟨h.1.JX s (fun _ _ h=>h),h.2⟩
   apply T.Q2 (M:=M6) [0,1,2,3,4,5,6,7,8,9,10,11,13,12,14,15,16] 13 12 37 (.pointer (some ⟨eY,0,none⟩)) [(6,iT vi)] [b8.eq (.pointer (some ⟨eY,0,none⟩)),b8.eq vi,b8.ptr RT.dc e.1,b8.ptr (RT.int .i64) e.1.1,b8.eq (.int .i64 e.1.1),b8.V ((RT.int .i64).sl) [e.1.1],(b8.mk' (fun v w=>P6 v w) (fun h s=>h6 h s)),b8.eq (.pointer (some ⟨eY,1,none⟩)),b8.eq vs,b8.ptr (RT.int .i64) e.2,b8.eq (.int .i64 e.2),b8.V ((RT.int .i64).sl) [e.2],b8.eq (.pointer (some ⟨eY,0,none⟩))] mixed
   ·simp+decide only[uN,pR,ic,List.map_nil,tN,tO,List.map_toArray,fu,mC,List.idxOf_cons,cond_true,cond_false,Nat.reduceBEq,Nat.reduceAdd,beq_self_eq_true];rfl
   ·rfl
   ·rfl
   ·rfl
   ·rfl
   ·rfl
   ·rfl
   ·rfl
   ·rfl
   ·rfl
   ·rfl
   ·rfl
   ·exact fun ρ w h=>Bc (size:=1) (o:=0) (o':=0) cy rfl rfl nF (by decide) (h (.tmp 5) _ rfl) w
   ·intro p hp b hb;simp only[dw,List.not_mem_nil,or_false]at hp;subst hp;exact kM.mut_ b hb
   ·exact fun p hp=>by
     simp only[dw,List.not_mem_nil,or_false]at hp;subst hp;show(6:Nat)≠12;decide
   ·exact qX.st (by exact⟨fun _ _ _ _=>trivial,⟨fun _ _ _ _=>trivial,⟨fun _ _ _ _=>trivial,⟨fun _ _ _ _=>trivial,⟨fun _ _ _ _=>trivial,⟨fun _ _ _ _=>trivial,⟨fun p hp b hb=>(by simp at hp),⟨fun _ _ _ _=>trivial,⟨fun _ _ _ _=>trivial,⟨fun _ _ _ _=>trivial,⟨fun _ _ _ _=>trivial,⟨fun _ _ _ _=>trivial,⟨fun _ _ _ _=>trivial,trivial⟩⟩⟩⟩⟩⟩⟩⟩⟩⟩⟩⟩⟩)
   intro wR9 sA9;have GO:=sA9 M6;have:=ak g2;replace cL:=(GO.mem _ this).2 cL;replace g2:=GO.aI g2;replace hv:=hv.le GO.le;replace qP:=qP.le (by decide) GO.le;replace kM:=kM.bg GO;replace kP:=kP.bg GO;replace fp:=fp.bg GO;replace hM:=GO.lt hM;have:=S.size;replace S:=S.ay GO;have X7:=g2;have Rk:=kM;have afa:=kP;have hz6:=GO.size;refine⟨?_,?_⟩
   ·refine aF ?_ ?_
    ·intro wD E sD;replace sD:Step M6 _ M6 wD (iT vi):=sD;refine aS (o':=0) cy rfl rfl nF (by decide) rfl rfl ?_;exact ad ⟨rfl,rfl,_,rfl,rfl,an _ _⟩
    refine aF ?_ ?_
    ·intro wD E sD;replace sD:Step M6 _ M6 wD aC:=sD;refine aw (aE au rfl rfl rfl (sD.aI X7) rfl ?_);exact ad ⟨rfl,rfl,_,rfl,rfl,an _ _⟩
    refine aF ?_ ?_
    ·intro wD E sD;replace sD:Step M6 _ M6 wD (iT vi):=sD;refine aH (M:=M6) (A:=RT.en) (B:=RT.dc) cP rfl rfl kG (by decide) Pq rfl rfl (by decide) qP sD.le (fun uf xr=>?_);exact ad ⟨rfl,rfl,_,rfl,xr,an _ _⟩
    refine aF ?_ ?_
    ·intro wD E sD;replace sD:Step M6 _ M6 wD (iT vi):=sD;intro v2 ny;refine aH (M:=M6) (A:=RT.dc) (B:=RT.int .i64) aM rfl rfl I3 (by decide) Pp rfl rfl (by decide) (show ch RT.dc M6 wD v2 e.1 from ny) (aq _ _) (fun uf xr=>?_);exact ad ⟨rfl,rfl,_,rfl,xr,an _ _⟩
    refine aF ?_ ?_
    ·intro wD E sD;replace sD:Step M6 _ M6 wD (iT vi):=sD;intro v3 ug;refine cc (M:=M6) ar rfl rfl (show ch (RT.int .i64) M6 wD v3 e.1.1 from ug) (aq _ _) (fun lr=>?_);exact ad ⟨rfl,rfl,_,rfl,rfl,an _ _⟩
    refine aF ?_ ?_
    ·intro wD E sD;replace sD:Step M6 _ M6 wD aC:=sD;refine aw ?_;refine eQ (A:=RT.int .i64) (hn:=by decide) (M:=M6) au I3 (by decide) rfl rfl (sD.lt hM) (gj NV) (.inr ⟨rfl,rfl⟩) (fun uS wS hS sS=>?_);exact ad ⟨rfl,rfl,_,rfl,hS,sS⟩
    refine aF ?_ ?_
    ·intro wD E sD;replace sD:Step M6 _ M6 wD aC:=sD;refine aw ?_;intro v5 nS;replace sD:Step M6 wR9 M6 wD aC:=sD;refine Rg.ki (M:=M6) (base:=w0.heap.size) au I3 rfl rfl rfl rfl (Rk.bg sD) (show((RT.int .i64).sl).V M6 wD [e.1.1] v5 from nS) (aq _ _) (by simp;omega) (by simp;omega) (by have:=sD.size;have:=S.size;omega) (fun vA wA hoA sA hFA=>?_);exact ad ⟨rfl,rfl,_,rfl,by show P6 vA wA;rw[X6];exact⟨hoA.lone,fun c hc=>(hFA c hc).elim (fun h=> .inl (by have:=sD.size;omega)) .inr⟩,sA.back⟩
    refine aF ?_ ?_
    ·intro wD E sD;replace sD:Step M6 _ M6 wD (iT vi):=sD;refine aS (o':=1) cy rfl rfl nF (by decide) rfl rfl ?_;exact ad ⟨rfl,rfl,_,rfl,rfl,an _ _⟩
    refine aF ?_ ?_
    ·intro wD E sD;replace sD:Step M6 _ M6 wD (iT vi):=sD;refine aw (aE au rfl rfl rfl (sD.bF X7 (fun h=>Rk.eL X7 (by decide) h)) rfl ?_);exact ad ⟨rfl,rfl,_,rfl,rfl,an _ _⟩
    refine aF ?_ ?_
    ·intro wD E sD;replace sD:Step M6 _ M6 wD (iT vi):=sD;refine aH (M:=M6) (A:=RT.en) (B:=RT.int .i64) cP rfl rfl I3 (by decide) R8 rfl rfl (by decide) qP sD.le (fun uf xr=>?_);exact ad ⟨rfl,rfl,_,rfl,xr,an _ _⟩
    refine aF ?_ ?_
    ·intro wD E sD;replace sD:Step M6 _ M6 wD (iT vi):=sD;intro v9 HV;refine cc (M:=M6) ar rfl rfl (show ch (RT.int .i64) M6 wD v9 e.2 from HV) (aq _ _) (fun lr=>?_);exact ad ⟨rfl,rfl,_,rfl,rfl,an _ _⟩
    refine aF ?_ ?_
    ·intro wD E sD;replace sD:Step M6 _ M6 wD (iT vi):=sD;refine aw ?_;refine eQ (A:=RT.int .i64) (hn:=by decide) (M:=M6) au I3 (by decide) rfl rfl (sD.lt hM) (gj I2) (.inr ⟨rfl,rfl⟩) (fun uS wS hS sS=>?_);exact ad ⟨rfl,rfl,_,rfl,hS,sS⟩
    refine aF ?_ ?_
    ·intro wD E sD;replace sD:Step M6 _ M6 wD (iT vi):=sD;refine aw (aw ?_);intro v2 ny;intro v3 ug;refine aw ?_;intro v5 nS;intro v6 nR;refine aw (aw (aS (o':=0) cy rfl rfl nF (by decide) rfl rfl ?_));exact ad ⟨rfl,rfl,_,rfl,rfl,an _ _⟩
    exact bD.nil
   ·intro NM Ce;replace Ce:Step M6 _ M6 NM (iT vi):=Ce;refine aw (aw ?_);intro VK FX;intro afd aaV;refine aw ?_;intro afe aaW;intro xA Ci;refine aw (aw ?_);intro aff aaX;refine aw ?_;intro Rl Bo;refine aw ?_;replace Ci:P6 xA NM:=Ci;rw[X6]at Ci;obtain⟨qI,Rm⟩:=Ci;replace Bo:((RT.int .i64).sl).V M6 NM [e.2] Rl:=Bo;have sX:Step M6 w6 M6 NM (iT vi):=(GO.cb (fun _ h=>h.elim) (fun b h=>GM.mut_ b h)).trans Ce (fun b _ h=>h);have X8:=GN.step sX (fun c hc h=>H7 c h hc);refine Rg.ki (M:=M6) (base:=w0.heap.size) au I3 rfl rfl rfl rfl X8 Bo (aq _ _) (by simp;omega) (by simp;omega) (by have:=Sp.size;have:=sX.size;omega) (fun v12 EK X9 kO Rn=>?_)
    have Fv:∀c,xA.ownBlock=some c→vs.ownBlock≠some c:=fun c hc hv=>by
     rcases Rm c hc with h|h
     ·have:=(GN.base c hv).2;omega
     ·exact H7 c h hv
    have Ro:=qI.JX kO (fun c hc h=>Fv c hc h)
    have Rp:iC v12 xA:=fun c hc Rq=>by
     rcases Rn c hc with h|h
     ·have:=(qI.base c Rq).2;omega
     ·exact Fv c Rq h
    have IM:∀c,v12.ownBlock=some c→w6.heap.size≤c∨vs.ownBlock=some c:=fun c hc=>(Rn c hc).elim (fun h=> .inl (by have:=sX.size;omega)) .inr
    have sZ:Step M6 w6 (jj M6 v12) EK (fun k=>iT vi k∨iT vs k):=(sX.cb (fun _ h=> .inl h) (fun b h=>h.elim (GM.mut_ b) (GN.mut_ b))).trans kO (fun b _ h=> .inr h);obtain⟨NW,MT⟩:∃M',M'=jj (jj M6 v12) xA:=⟨_,rfl⟩;have sW:Step M6 w6 NW EK (fun k=>iT vi k∨iT vs k):=by rw[MT];exact sZ.Xr (fun c hc=>⟨(Ro.base c hc).2,(Rm c hc).elim .inl (fun h=> .inr (.inr (GM.mut_ c h)))⟩)
    have kM:=Ro.HB (M':=NW) (by rw[MT];exact fun b hb=> .inl hb);have kP:=X9.HB (M':=NW) (by rw[MT];exact fun b hb=> .inr (.inl hb));have cL:=(sW.mem _ (ak SB)).2 Ri;have g2:=sW.bF SB (fun h=>h.elim (GM.eL SB (by decide)) (GN.eL SB (by decide)));have fp:=((Rj.C4 (Z':=fun k=>ZP w0.heap.size eY vi vs k∧ZP w0.heap.size eY xA v12 k) (fun c hc dB=>⟨hc,hc.1,hc.2.1,fun h=>(Rm c h).elim (fun h=>by omega) hc.2.2.1,fun h=>(IM c h).elim (fun h=>by omega) hc.2.2.2⟩)).step sW (fun k hk hz=>hk.elim hz.1.2.2.1 hz.1.2.2.2)).C4 (Z':=ZP w0.heap.size eY xA v12) (fun c hc _=>hc.2);have hv:=XD.le sW.le;have S:=Sp.cu sW (fun k hk=>hk.elim (fun h=>(GM.base k h).1) (fun h=>(GN.base k h).1));have hM:=sW.lt hMp;refine ad ⟨rfl,rfl,fun h=>absurd rfl h,?_⟩;refine bQ (M:=NW) nF rfl rfl g2 rfl (by obtain⟨_,_,he,_⟩:=kM.isSlice;rw[he];rfl) cL (fun PG g14 je=>?_);replace g14:PG.heap[eY]? =some (.cells #[xA,vs,.slice none 0 0,.slice none 0 0] 58 (0,0)):=g14;replace kM:=kM.step je (fun c hc (h:c=eY)=>kM.eL g2 (by decide) (h▸hc));replace kP:=kP.step je (fun c hc (h:c=eY)=>kP.eL g2 (by decide) (h▸hc));replace cL:=(je.mem _ (ak g2)).2 cL;replace fp:=fp.step je (fun k (hk:k=eY) hz=>hz.2.1 hk);replace hv:=hv.le je.le;replace S:=S.cu je (fun k (hk:k=eY)=>by rw[hk];omega);replace hM:=je.lt hM;clear g2;have g2:=g14;refine ad ⟨rfl,rfl,fun h=>absurd rfl h,?_⟩;refine aS (o':=1) cy rfl rfl nF (by decide) rfl rfl ?_;refine ad ⟨rfl,rfl,fun h=>absurd rfl h,?_⟩;refine bQ (M:=NW) nF rfl rfl g2 rfl (by obtain⟨_,_,he,_⟩:=kP.isSlice;rw[he];rfl) cL (fun JU g16 A5=>?_);replace g16:JU.heap[eY]? =some (.cells #[xA,v12,.slice none 0 0,.slice none 0 0] 58 (0,0)):=g16;replace kM:=kM.step A5 (fun c hc (h:c=eY)=>kM.eL g2 (by decide) (h▸hc));replace kP:=kP.step A5 (fun c hc (h:c=eY)=>kP.eL g2 (by decide) (h▸hc));replace cL:=(A5.mem _ (ak g2)).2 cL
    replace fp:=fp.step A5 (fun k (hk:k=eY) hz=>hz.2.1 hk);replace hv:=hv.le A5.le;replace S:=S.cu A5 (fun k (hk:k=eY)=>by rw[hk];omega);replace hM:=A5.lt hM;clear g2;have g2:=g16;refine ad ⟨rfl,rfl,fun h=>absurd rfl h,?_⟩;refine qp (ah (bB rfl rfl rfl (by omega) (ae rfl rfl (ad ?_))));have et:L.take (i+1)=L.take i++[e]:=by rw[cg,CM,cZ]
    rw[et]at fp;refine⟨rfl,(i+1,xA,v12),(.cons rfl (.cons rfl (.cons rfl (.cons rfl (.cons rfl .nil))))),?_,?_⟩
    ·exact⟨_,_,hM,S,hv,by rw[et];exact fp,g2,cL,by rw[et,jx];exact kM,by rw[et,jx];exact kP,Rp.symm,by omega,by dsimp only;omega,by dsimp only;omega⟩
    ·dsimp only;omega
  ·refine cN (aj (ah ?_));have hLi:L.take i=L:=bp (by omega);rw[hLi]at fp kM kP;refine ae rfl rfl ?_;refine aP rfl rfl E58 (AX _ hM fp hF (by omega)) (fun rk Sv hc=>?_);obtain⟨vM,qQ⟩:=hc;have:=ak g2;replace cL:=(qQ.mem _ this).2 cL;replace g2:=qQ.aI g2;replace hv:=hv.le qQ.le;replace kM:=kM.bg qQ;replace kP:=kP.bg qQ;replace fp:=fp.bg qQ;replace hM:=qQ.lt hM;have:=S.size;replace S:=S.ay qQ;refine aS (o':=2) cy rfl rfl G7 (by decide) rfl rfl ?_;refine bQ (M:=M2) G7 rfl rfl g2 rfl (jY vM rfl rfl) cL (fun yJ cn eu=>?_);change yJ.heap[_]? =some (Obj.cells #[vi,vs,rk,.slice none 0 0] _ _)at cn;have:=ak g2;replace cL:=(eu.mem _ this).2 cL;replace hv:=hv.le eu.le;replace vM:=vM.le eu.le;replace kM:=kM.step eu (fun c hc (h:c=eY)=>kM.eL g2 (by decide) (h▸hc));replace kP:=kP.step eu (fun c hc (h:c=eY)=>kP.eL g2 (by decide) (h▸hc));replace fp:=fp.stepT eu (by first|exact fun k hk=>by(obtain⟨cs,hc⟩:=oK.isCells hk;exact⟨cs,_,hc,by decide,by decide,by decide⟩)|exact fun k (hk:k=eY)=>⟨_,_,hk▸g2,by decide,by decide,by decide⟩);replace hM:=eu.lt hM;have:=S.size;replace S:=S.trans eu (fun k hk h=>by have h:_=_:=h;subst h;first|(exfalso;omega)|(show _≤_;omega)|exact⟨by first|omega|assumption,(S.mem _ hk).1 ((eu.mem _ (ak g2)).1 cL)⟩|exact .inl rfl|exact .inr rfl|exact .inr (.inl rfl)|exact .inr (.inr rfl)|exact rfl);have Fa:=cn;clear g2;have g2:=Fa;clear Fa;refine ad (aj (aj (ah (aS (o':=2) cy rfl rfl G7 (by decide) rfl rfl (aE a8 rfl rfl rfl g2 rfl (bz (v':=rk) rfl (bT a8 rfl vM rfl (ae rfl rfl (ad (bj ?_))))))))));refine dF (σ:=Nat×Value) (fun q=>[(4,.pointer (some ⟨b1,0,none⟩)),(5,.pointer (some ⟨eY,0,none⟩)),(44,rk),(45,.int .i64 ((keysOf L).length:Int)),(46,.int .i64 (q.1:Int))]) (fun q w=>∃M',Lt M' w∧Step M w0 M' w aC∧ll (ZP w0.heap.size eY vi vs) M' w w0.heap.size b1 L words (ky (-1) L)∧w.heap[eY]? =some (.cells #[vi,vs,rk,q.2] 58 (0,0))∧M' eY∧Own (RT.int .i64) 3 M' w w0.heap.size vi (L.map (·.1.1))∧Own (RT.int .i64) 3 M' w w0.heap.size vs (L.map (·.2))∧Own ((RT.po).sl) 107 M' w w0.heap.size q.2 (((keysOf L).take q.1).map (pk L))∧(RT.str.sl).V M' w (keysOf L) rk∧q.1≤(keysOf L).length) (fun q=>(keysOf L).length-q.1) (0,.slice none 0 0) (.cons rfl (.cons rfl (.cons rfl (.cons rfl (.cons rfl .nil))))) ?_ ?_
   ·exact⟨_,hM,S,fp,g2,cL,kM,kP,ec _ _ _ _ _,vM,bH _⟩
   ·clear hM S fp g2 cL kM kP vM hv;rintro⟨i3,vl⟩ w ⟨M3,hM,S,fp,g2,cL,kM,kP,oK,vM,SM⟩;dsimp only at g2 oK SM ⊢;refine aj (ah (cd rfl rfl rfl (ad (aj ?_))));refine bI rfl (fun HU=>?_) (fun HU=>?_)
    ·refine aV (aj (bj (aj (ah ?_))));refine dq (M:=M3) a8 I9 rfl rfl rfl vM (aq _ _) (by omega) (fun u14 k MU Ya=>?_);rw[az]at MU;refine cf (M:=M3) aD rfl rfl rfl rfl rfl Ya (aq _ _) (fun vk hvk=>?_);obtain rfl:=fy hvk;refine ai rfl rfl (ad ?_);apply T.nM 4 [0,1] 2 aC mixed rfl rfl rfl rfl;intro Mg Gf;have my:=Gf M3;have:=ak g2;replace cL:=(my.mem _ this).2 cL;replace g2:=my.aI g2;replace vM:=vM.le my.le;replace kM:=kM.bg my;replace kP:=kP.bg my;replace oK:=oK.bg my;replace fp:=fp.bg my;replace hM:=my.lt hM;have:=S.size;replace S:=S.ay my;refine aS (o':=3) cy rfl rfl NS (by decide) rfl rfl ?_;refine ad ⟨rfl,rfl,rfl,?_⟩;refine aE Tryz.underlying56 rfl rfl rfl (by first|assumption|exact bV my (by assumption)) rfl ?_;refine ad ⟨rfl,rfl,rfl,?_⟩;refine ae rfl rfl ?_;refine ad ⟨rfl,rfl,rfl,?_⟩;refine ae rfl rfl ?_;refine ad ⟨rfl,rfl,rfl,?_⟩;refine fz ?_;refine⟨iz ⟨jw cy rfl NS (by decide),⟨fJ rfl g2 (fun h=>h),trivial⟩⟩,?_⟩;have kp:=kg aC Mg;refine aP rfl rfl E59 (AY (k:=k) _ hM fp hF (by omega) (by have:=H9 k (aL MU);omega)) (fun Ze ND hc=>?_);obtain⟨FZ,qa⟩:=hc;have:=ak g2;replace cL:=(qa.mem _ this).2 cL;replace g2:=qa.aI g2;replace vM:=vM.le qa.le;replace kM:=kM.bg qa;replace kP:=kP.bg qa;replace oK:=oK.bg qa;replace fp:=fp.bg qa;replace hM:=qa.lt hM;have:=S.size;replace S:=S.ay qa;refine(fun(kp:eg _ _ _)=>ad ⟨rfl,rfl,fun _=>kp,?_⟩) (by first|exact kp|exact kp.pO (by assumption)|exact kp.goN (by assumption)|exact kp.go (by assumption) (fun _ _ h=>by first|exact h|exact h.elim));refine eQ (A:=((RT.po).sl)) (hn:=by decide) (M:=M3) Tryz.underlying56 jE (by decide) rfl rfl hM (FZ) (.inr ⟨rfl,rfl⟩) (fun aaY JN tD gS=>?_)
     have:=ak g2;replace cL:=(gS.mem _ this).2 cL;replace g2:=gS.aI g2;replace vM:=vM.le gS.le;replace FZ:=FZ.le gS.le;replace kM:=kM.bg gS;replace kP:=kP.bg gS;replace oK:=oK.bg gS;replace fp:=fp.bg gS;replace hM:=gS.lt hM;have:=S.size;replace S:=S.ay gS;refine(fun(kp:eg _ _ _)=>ad ⟨rfl,rfl,fun _=>kp,?_⟩) (by first|exact kp|exact kp.pO (by assumption)|exact kp.goN (by assumption)|exact kp.go (by assumption) (fun _ _ h=>by first|exact h|exact h.elim));refine cO (M:=M3) (base:=w0.heap.size) Tryz.underlying56 jE rfl rfl rfl rfl oK tD (aq _ _) (by simp;omega) (by simp;omega) (S.size) (fun J2 Rr aaZ MV nX=>?_);have:=ak g2;replace cL:=(nX.mem _ this).2 cL;replace g2:=nX.bF g2 (fun h=>by first|exact oK.dC g2 h|exact oK.eL g2 (by decide) h|(have:=(oK.base _ h).1;omega));replace vM:=vM.le nX.le;replace FZ:=FZ.le nX.le;replace tD:=tD.le nX.le;replace kM:=kM.step nX (fun b h1 h2=>kM.iu oK (by decide) h1 h2);replace kP:=kP.step nX (fun b h1 h2=>kP.iu oK (by decide) h1 h2);replace fp:=fp.stepT nX (by first|exact fun k hk=>by(obtain⟨cs,hc⟩:=oK.isCells hk;exact⟨cs,_,hc,by decide,by decide,by decide⟩)|exact fun k (hk:k=eY)=>⟨_,_,hk▸g2,by decide,by decide,by decide⟩);replace hM:=nX.lt hM;have:=S.size;replace S:=S.dh nX oK (bh _);replace oK:=MV;refine ad ⟨rfl,rfl,fun h=>absurd rfl h,?_⟩;refine aS (o':=3) cy rfl rfl NS (by decide) rfl rfl ?_;refine ad ⟨rfl,rfl,fun h=>absurd rfl h,?_⟩;refine bQ (M:=Rr) NS rfl rfl g2 rfl (by obtain⟨_,_,he,_⟩:=oK.isSlice;rw[he];rfl) cL (fun Rs J3 nt=>?_);change Rs.heap[_]? =some (Obj.cells #[vi,vs,rk,J2] _ _)at J3;have:=ak g2;replace cL:=(nt.mem _ this).2 cL;replace vM:=vM.le nt.le;replace FZ:=FZ.le nt.le;replace tD:=tD.le nt.le;replace kM:=kM.step nt (fun c hc (h:c=eY)=>kM.eL g2 (by decide) (h▸hc))
     replace kP:=kP.step nt (fun c hc (h:c=eY)=>kP.eL g2 (by decide) (h▸hc));replace oK:=oK.step nt (fun c hc (h:c=eY)=>oK.eL g2 (by decide) (h▸hc));replace fp:=fp.stepT nt (by first|exact fun k hk=>by(obtain⟨cs,hc⟩:=oK.isCells hk;exact⟨cs,_,hc,by decide,by decide,by decide⟩)|exact fun k (hk:k=eY)=>⟨_,_,hk▸g2,by decide,by decide,by decide⟩);replace hM:=nt.lt hM;have:=S.size;replace S:=S.trans nt (fun k hk h=>by have h:_=_:=h;subst h;first|(exfalso;omega)|(show _≤_;omega)|exact⟨by first|omega|assumption,(S.mem _ hk).1 ((nt.mem _ (ak g2)).1 cL)⟩|exact .inl rfl|exact .inr rfl|exact .inr (.inl rfl)|exact .inr (.inr rfl)|exact rfl);have Fa:=J3;clear g2;have g2:=Fa;clear Fa;refine ad ⟨rfl,rfl,fun h=>absurd rfl h,?_⟩;refine qp (ah (bB rfl rfl rfl (by omega) (ae rfl rfl (ad ?_))));refine⟨rfl,(i3+1,J2),(.cons rfl (.cons rfl (.cons rfl (.cons rfl (.cons rfl .nil))))),?_,?_⟩
     ·exact⟨_,hM,S,fp,g2,cL,kM,kP,by rw[cg,MU,cZ,jx];exact oK,vM,by dsimp only;omega⟩
     ·dsimp only;omega
    ·refine cN (aj (ah (ib (vs:=[vi,vs,rk,vl]) cy rfl Sx rfl rfl rfl g2 ?_)));rw[bp (by omega)]at oK;have Qf:RT.pa.V M _ (ix L) _:=Vt (x:=ix L) (kM.close jH S (by show(L.map _).length≤_;rw[db];omega)) (kP.close jH S (by show(L.map _).length≤_;rw[db];omega)) (vM.le (Le.close jH S)) (oK.close jH S (by show((keysOf L).map _).length≤_;rw[db];omega));replace S:=S.back;replace hM:=S.lt jH;refine aP rfl rfl E27 (Ba (p:=ix L) _ hM Qf (IF hF (by omega))) (fun r17 w17 hc=>?_);obtain⟨W5,Rt,_⟩:=hc;obtain⟨sg,rfl,wK⟩:=Rt (MF fv (by omega));replace S:=S.ay W5;refine bP rfl rfl rfl (bP rfl rfl rfl (ai rfl rfl (ai rfl rfl (ad (aJ ?_)))));exact eH rfl rfl rfl ⟨sg,rfl,wK,S⟩
end Go.K
namespace Go.K
open Go.Proofs
namespace TKSegF
theorem Ru:placesOf Tryz.prog 127=[(0,1),(1,1)].map some:=by kernel_rfl
theorem Rv:Enters Tryz.prog 15:=enters Tryz.func15 rfl (by decide)
theorem Yb:Enters Tryz.prog 67:=enters Tryz.func67 rfl (by decide)
theorem Sz:Enters Tryz.prog 70:=enters Tryz.func70 rfl (by decide)
end TKSegF
open TKSegF
set_option maxRecDepth 10000
theorem qk {id:Int}:∀(fs:List Fd) (i:Nat) (out:List Fd),kh (id,out)=0→kh (id,la id i out fs)=0
 |[],_,_,h=>h
 |x::fs,i,out,h=>by
  unfold la
  split
  ·split
   ·rename_i h1;exact qk fs _ _ h1
   ·exact qk fs _ _ h
  ·exact h
theorem l1 {id:Int}:∀(fs:List Fd) (i:Nat) (out:List Fd),oA out→oA (la id i out fs)
 |[],_,_,h=>h
 |x::fs,i,out,h=>by
  unfold la
  split
  ·rename_i hi
   split
   ·exact l1 fs _ _ (h.snoc (sO x hi))
   ·exact l1 fs _ _ h
  ·exact h
theorem Dm (d:Dc):kh (l7 d)=0:=qk d.2 0 [] rfl
theorem zC (d:Dc):oA (l7 d).2:=l1 d.2 0 [] (fun x h=>by cases h)
theorem zE {e:En}:∀{L:List En} {last:Int},zq last (L++[e])=(zq last L&&decide (jD (ky last L) e=0))
 |[],last=>by show(decide (jD last e=0)&&true)=(true&&decide (jD last e=0));rw[ig,dv]
 |x::L,last=>by rw[iE];show(decide (jD last x=0)&&zq x.2 (L++[e]))=(decide (jD last x=0)&&zq x.2 L&&decide (jD (ky x.2 L) e=0));rw[zE (L:=L),Bool.and_assoc]
theorem tF {e:En}:∀{L:List En} {last:Int},ky last (L++[e])=e.2
 |[],_=>rfl
 |x::L,last=>by simp only[iE,ky];exact tF
theorem zF (l:List Dc) {a s:Int} (ha:0≤a) (hs:1≤s):∀k,zq (-1) (fO l a s k)=true∧ky (-1) (fO l a s k)<a+s*(k:Int)
 |0=>⟨rfl,by show(-1:Int)<_;simp;omega⟩
 |k+1=>by
  obtain⟨h1,h2⟩:=zF l ha hs k;have e1:a+s*((k+1:Nat):Int)=a+s*(k:Int)+s:=by rw[Int.natCast_add,Int.mul_add];simp;omega
  cases h:l[k]? with
  |none=>rw[sY (List.getElem?_eq_none_iff.1 h),e1];exact⟨h1,by omega⟩
  |some d=>
   rw[sV h,zE,tF,h1,e1]
   have:jD (ky (-1) (fO l a s k)) (l7 d,a+s*(k:Int))=0:=by
    unfold jD;rw[if_neg (fun h=>h (Dm d)),if_neg (by show¬(a+s*(k:Int)≤_);omega)]
   exact⟨by rw[this];rfl,by show a+s*(k:Int)<_;omega⟩
theorem vN {l:List Dc} {a s:Int}:∀{k:Nat} {e:En},e∈fO l a s k→∃d,e.1=l7 d
 |0,e,h=>by cases h
 |k+1,e,h=>by
  rw[fO]at h;rcases dm.1 h with h|h
  ·exact vN h
  ·split at h
   ·rename_i d _;rw[cE.1 h];exact⟨d,rfl⟩
   ·cases h
theorem Bp {l:List Dc} {a s:Int} {k:Nat}:∀e∈fO l a s k,∀f∈e.1.2,f.1.length≤900000∧f.2.length≤900000:=fun e he f hf=>by
 obtain⟨d,hd⟩:=vN he;rw[hd]at hf;have:=zC d f hf;omega
theorem zG:words [97]=[[97]]:=by
 have h:dW [97]=[97]:=by rw[lO (by simp)];simp[dec,yj,gZ,gR,nw]
 unfold words;rw[h];simp[eI];rfl
theorem GP:b5 [([116],[97])]=[(([116],[97]),0)]:=by
 show fW ([116],[97])++[]=_;unfold fW;rw[zG];rfl
end Go.K
namespace Go.K
open Go.Proofs
namespace TKErsD
theorem xN:TI Tryz.prog 51 (.agg #[(.string ⟨#[]⟩),(.string ⟨#[]⟩),(.int .i64 0)]) 3 40:=by unfold TI;kernel_rfl
theorem SC:placesOf Tryz.prog 51=[(0,2),(2,1)].map some:=by kernel_rfl
theorem Ru:placesOf Tryz.prog 127=[(0,1),(1,1)].map some:=by kernel_rfl
theorem Rv:Enters Tryz.prog 15:=enters Tryz.func15 rfl (by decide)
theorem E24:Enters Tryz.prog 24:=enters Tryz.func24 rfl (by decide)
end TKErsD
open TKErsD
set_option maxRecDepth 10000
abbrev zH:List En:=[((0,[([116],[97])]),1),((0,[([116],[97])]),5)]
theorem GQ:zq (-1) zH=true:=by
 have h:∀a b:Int,a<b→jD a ((0,[([116],[97])]),b)=0:=by
  intro a b hab
  have hm:kh (0,[([116],[97])])=0:=by
   unfold kh;simp only[sM,zG];decide
  unfold jD;rw[if_neg (fun h=>h hm),if_neg (by show¬b≤a;omega)]
 show(decide (jD (-1) ((0,[([116],[97])]),1)=0)&&(decide (jD 1 ((0,[([116],[97])]),5)=0)&&true))=true;rw[h (-1) 1 (by decide),h 1 5 (by decide)];rfl
theorem IQ:IP (lu (Gq (ix zH)).2.2.1 ((keysOf zH).map (pk zH)) (dd ([116],[97]))):=by
 show IP (lu (keysOf zH) _ _);rw[Bf];exact GH (np GQ) (by decide) _
theorem MW:(pk zH (dd ([116],[97]))).map (fun p:Po=>p.1)=[0,1]:=by
 show(AO 0 (b5 [([116],[97])]) (dd ([116],[97]))++(AO 1 (b5 [([116],[97])]) (dd ([116],[97]))++[])).map (fun p:Po=>p.1)=_;rw[GP];decide
theorem Dn:me (lu (Gq (ix zH)).2.2.1 ((keysOf zH).map (pk zH)) (dd ([116],[97]))) (Gq (ix zH)).2.1 3=[0]:=by
 show me (lu (keysOf zH) _ _) [1,5] 3=[0];rw[Bf];unfold me;rw[MW];decide
theorem xB {M:aA} (w0:World) (hM:Lt M w0):
  Spec Tryz.prog 26 #[] w0 (fun v w=>v= .bool true∧Step M w0 M w aC):=by
 refine aX (args:=[]) (fn:=Tryz.f26) Tryz.func26 rfl (n:=32) Tryz.ntmps26 ?_;have S:Step M w0 M w0 aC:=(an _ _).cb (fun _ h=>h.elim) (fun _ h=>h.elim);refine aj (ah (ai rfl rfl (ad (aj (ah (dZ (places:=[(0,1),(1,1)]) bS hU Ru rfl ⟨_,_,rfl,rfl,_,_,rfl,rfl,rfl⟩ (out:=[_,_]) ⟨0,[_],rfl,rfl,by simp[Value.cells],1,[_],rfl,rfl,by simp[Value.cells],rfl⟩ ?_))))));refine eQ (A:=RT.fd) (hn:=by decide) (M:=M) aU hU (by decide) rfl rfl hM (xb (t:=([116],[97])) (by decide) (by decide)) (.inl rfl) (fun Yc H2 nY oE=>?_);replace hM:=oE.lt hM;have:=S.size;replace S:=S.ay oE;refine dZ (places:=[(0,1),(1,1)]) aM kG OC rfl ⟨_,_,rfl,rfl,rfl⟩ (out:=[.int .i64 0,_]) ⟨1,[_],rfl,ik nY,by simp[Value.cells],rfl⟩ ?_;have Jb:RT.dc.V M _ (0,[([116],[97])]) (.agg #[.int .i64 0,Yc]):=dY (gj (by decide)) nY rfl rfl rfl rfl;refine oc (A:=RT.dc) (M:=M) kG rfl rfl rfl rfl rfl (by assumption) (aq _ _) hM (fun EC wV fA s1_3 afi=>?_);replace nY:=nY.le s1_3.le;replace hM:=s1_3.lt hM;have:=S.size;replace S:=S.ay s1_3;refine ad (aj (ah ?_));refine cC (M:=M) (A:=RT.dc) aM rfl kG (by decide) rfl rfl rfl fA (aq _ _) (fun v B9=>?_);obtain⟨HO,rfl⟩:=wY B9;refine dZ (places:=[(0,2),(2,1)]) cP yk R2 rfl ⟨_,_,rfl,rfl,_,_,rfl,rfl,rfl⟩ (out:=[_,_,_]) ⟨0,[_,_],rfl,rfl,by simp[Value.cells],2,[_],rfl,rfl,by simp[Value.cells],rfl⟩ ?_;refine cC (M:=M) (A:=RT.dc) aM rfl kG (by decide) rfl rfl rfl fA (aq _ _) (fun v J4=>?_);obtain⟨QW,rfl⟩:=wY J4;refine dZ (places:=[(0,2),(2,1)]) cP yk R2 rfl ⟨_,_,rfl,rfl,_,_,rfl,rfl,rfl⟩ (out:=[_,_,_]) ⟨0,[_,_],rfl,rfl,by simp[Value.cells],2,[_],rfl,rfl,by simp[Value.cells],rfl⟩ ?_;refine Rg.N1 (A:=RT.en) (hn:=by decide) (M:=M) (xs:=zH) gg yk rfl (by decide) rfl ⟨_,_,_,rfl,rfl,rfl,BS B9 (by decide),_,_,_,rfl,rfl,rfl,BS J4 (by decide),rfl⟩ rfl hM (.inl rfl) (by decide) (fun u4 w4 xL s4=>?_)
 replace nY:=nY.le s4.le;replace fA:=fA.le (by decide) s4.le;replace hM:=s4.lt hM;have:=S.size;replace S:=S.ay s4;refine aP rfl rfl Rv (tC (L:=zH) _ hM xL (fun e he f hf=>by simp only[zH,dw,List.mem_nil_iff,or_false]at he;rcases he with rfl|rfl<;>(simp only[cE]at hf;subst hf;decide)) (by decide) GQ) (fun r5 w5 hc=>?_);obtain⟨sb,rfl,SD,s5⟩:=hc;obtain⟨ab,rfl⟩:=SD.iZ;replace nY:=nY.le s5.le;replace fA:=fA.le (by decide) s5.le;replace xL:=xL.le s5.le;replace hM:=s5.lt hM;have:=S.size;replace S:=S.ay s5;refine ae rfl rfl (bP rfl rfl rfl (bP rfl rfl rfl (ai rfl rfl (ai rfl rfl (ad (aj (aj (ah (ae rfl rfl (Rg.sc Tryz.underlying25 rfl rfl rfl (ad ?_)))))))))));refine T.zR rfl ((by simp)) (aV (aj (ah (ae rfl rfl (dZ (places:=[(0,1),(1,1)]) b9 qE YU rfl ⟨_,_,rfl,rfl,_,_,rfl,rfl,rfl⟩ (out:=[_,_]) ⟨0,[_],rfl,rfl,by simp[Value.cells],1,[_],rfl,rfl,by simp[Value.cells],rfl⟩ (dZ (places:=[(0,2),(2,1)]) kR xN SC rfl ⟨_,_,rfl,rfl,_,_,rfl,rfl,rfl⟩ (out:=[_,_,_]) ⟨0,[_,_],rfl,rfl,by simp[Value.cells],2,[_],rfl,rfl,by simp[Value.cells],rfl⟩ ?_))))));refine aP rfl rfl E24 (Bn (e:=(([116],[97]),3)) (ls:=(keysOf zH).map (pk zH)) _ hM SD (JZ ⟨by decide,by decide⟩ (by decide)) (jC zH) rfl (by rw[db];rfl) IQ) (fun r3 w3 hc=>?_);obtain⟨MR,s3⟩:=hc;rw[Dn]at MR;replace nY:=nY.le s3.le;replace fA:=fA.le (by decide) s3.le;replace xL:=xL.le s3.le;replace SD:=SD.le (by decide) s3.le;replace hM:=s3.lt hM;have:=S.size;replace S:=S.ay s3;refine ai rfl rfl (ad (aj (ah (ae rfl rfl (bT au rfl MR rfl (Rg.zS rfl rfl rfl (ae rfl rfl (Rg.I0 (g:=26) rfl (rfl) (al rfl rfl (ae rfl rfl (al rfl rfl ?_)))))))))));refine dq (M:=M) au I3 rfl rfl rfl MR (aq _ _) (by decide) (fun u9 e G9 Ly=>?_)
 refine al rfl rfl ?_;refine cc (M:=M) ar rfl rfl Ly (aq _ _) (fun lr=>?_);obtain rfl:e=0:=by simpa using G9.symm
 refine al rfl rfl (Rg.zS rfl rfl rfl (aR rfl rfl rfl (ai rfl rfl (ad (aJ ?_)))));exact aO rfl rfl ⟨rfl,S⟩
end Go.K
namespace Go.K
variable {P:Program} {r:Option Nat} {n:Nat} {L:Sl} {ds:List Deferred} {w:World} {K:Kt} {ops:Array Oper} {rest:List Oper} {d:Nat} {x y:Operand} {ty:TypeId} {pos:String} {af:Array Edge} {α:Type} {A:RT α}
def IS {α:Type} (A:RT α):Prop:=∀(M M':aA) (w w':World) (x:α) (vs:List Value),A.R M w x vs→A.R M' w' x vs
theorem eo.Rw {M M':aA} {w w':World} (hA:IS A):∀{xs:List α} {C:List Value},eo A M w xs C→eo A M' w' xs C
 |[],_,h=>h
 |_::_,_,⟨vs,rest,h1,h2,h3⟩=>⟨vs,rest,h1,hA _ _ _ _ _ _ h2,eo.Rw hA h3⟩
theorem Own.Rx {e:TypeId} {M M2:aA} {w':World} {base:Nat} {v:Value} {xs:List α} (hA:IS A) (h:Own A e M2 w' base v xs) (s:Step M w M2 w' aC) (hb:w.heap.size≤base) (M1:aA):Own A e (jj M1 v) w' base v xs∧Step M1 w (jj M1 v) w' aC:=by
 have Dv:=h.base;obtain⟨⟨C,hr,ha⟩,hm⟩:=h;refine⟨⟨⟨C,hr,ha.Rw hA⟩,fun b hb=> .inl hb⟩,fun hl b xE=>?_,s.os,s.tape,s.output,s.size,fun b xE=>⟨fun h=>h.resolve_left fun e=>by have:=(Dv b e).1;omega,.inr⟩,s.same,fun b h=>h.elim⟩;rcases xE with h|h
 ·exact(Dv b h).2
 ·exact mI (hl b h) s.size
theorem Own.MX {hn:0<A.n} {e:TypeId} {M M1 M2:aA} {w':World} {base:Nat} {v:Value} {xs:List α} (hA:IS A) (h:Own A e M2 w' base v xs) (s:Step M w M2 w' aC) (hb:w.heap.size≤base) (hM:Lt M1 w) (hlen:xs.length≤140737488355328):(A.sl hn).V M1 w' xs v∧Step M1 w M1 w' aC:=by
 have Dv:=h.base;obtain⟨h1,h2⟩:=h.Rx hA s hb M1;exact⟨h1.sl (fun b _ Jz=>⟨fun h=>Jz (.inr h),rfl⟩) (fun b o0 hM'=>by have h3:=(Dv b o0).1;have h4:=hM b hM';omega) hlen,s.any M1⟩
end Go.K
namespace Go.K
open Go.Proofs
namespace TKQueA
theorem xN:TI Tryz.prog 51 (.agg #[(.string ⟨#[]⟩),(.string ⟨#[]⟩),(.int .i64 0)]) 3 40:=by unfold TI;kernel_rfl
end TKQueA
open TKQueA
set_option maxRecDepth 10000
end Go.K
namespace Go.K
open Go.Proofs
namespace TKQueC
theorem MY:TI Tryz.prog 49 (.agg #[(.string ⟨#[]⟩),(.string ⟨#[]⟩),(.int .i64 0)]) 3 40:=by unfold TI;kernel_rfl
theorem xN:TI Tryz.prog 51 (.agg #[(.string ⟨#[]⟩),(.string ⟨#[]⟩),(.int .i64 0)]) 3 40:=by unfold TI;kernel_rfl
end TKQueC
open TKQueC
set_option maxRecDepth 10000
end Go.K
namespace Go.K
open Go.Proofs
namespace TKTak15
theorem MY:TI Tryz.prog 49 (.agg #[(.string ⟨#[]⟩),(.string ⟨#[]⟩),(.int .i64 0)]) 3 40:=by unfold TI;kernel_rfl
theorem xN:TI Tryz.prog 51 (.agg #[(.string ⟨#[]⟩),(.string ⟨#[]⟩),(.int .i64 0)]) 3 40:=by unfold TI;kernel_rfl
theorem SC:placesOf Tryz.prog 51=[(0,2),(2,1)].map some:=by kernel_rfl
end TKTak15
open TKTak15
set_option maxRecDepth 10000
theorem vP {M:aA} {l:List Er} {v0:Value} (w0:World) (hM:Lt M w0) (hv:(RT.er.sl).V M w0 l v0) (hl:l.length≤140737488355328):
  Spec Tryz.prog 47 #[v0] w0 (fun v w=>(RT.er.sl).V M w (l.take 20) v∧Step M w0 M w aC):=by
 have jH:=hM;refine aX (args:=[_]) (fn:=Tryz.f47) Tryz.func47 rfl (n:=30) Tryz.ntmps47 ?_;have S:Step M w0 M w0 aC:=(an _ _).cb (fun _ h=>h.elim) (fun _ h=>h.elim);refine aj (ah (ai rfl rfl (ad (aj (ah (ai rfl rfl (ad (aj (aj (ah (ai rfl rfl ?_)))))))))));refine ad (bj ?_);refine dF (σ:=Nat×Value) (fun q=>[(0,v0),(3,q.2),(4,.int .i64 (q.1:Int))]) (fun q w=>∃M',Lt M' w∧Step M w0 M' w aC∧Own RT.er 51 M' w w0.heap.size q.2 (l.take q.1)∧(RT.er.sl).V M' w l v0∧q.1≤min 20 l.length) (fun q=>l.length-q.1) (0,.slice none 0 0) (.cons rfl (.cons rfl (.cons rfl .nil))) ?_ ?_
 ·exact⟨M,hM,S,ec _ _ _ _ _,hv,bH _⟩
 ·rintro⟨i,u⟩ w ⟨M1,hM,S,ho,hv,hi⟩;dsimp only at ho hi ⊢;refine aj (aj (ah (ae rfl rfl (ae rfl rfl (bT qt rfl hv rfl (cd rfl rfl rfl (ae rfl rfl ?_)))))));refine aG (g:=9) rfl (fun LB=>?_) (fun LB=>?_)
  ·refine al rfl rfl (ae rfl rfl (al rfl rfl (cd rfl rfl rfl (aR rfl rfl rfl (ad ?_)))));refine bI rfl (fun c3=>?_) (fun c3=>?_)
   ·refine aV (aj (bj ?_));apply T.nM 12 [0] 1 aC mixed rfl rfl rfl rfl;intro NH Qg;have xo:=Qg M1;replace hv:=hv.le xo.le;replace ho:=ho.bg xo;replace hM:=xo.lt hM;have:=S.size;replace S:=S.ay xo;refine ae rfl rfl ?_;refine ad ⟨rfl,rfl,rfl,?_⟩;refine ae rfl rfl ?_;refine ad ⟨rfl,rfl,rfl,?_⟩;refine ae rfl rfl ?_;refine ad ⟨rfl,rfl,rfl,?_⟩;obtain⟨e,uC⟩:∃e,l[i]? =some e:=⟨_,aN (by omega)⟩;refine dq (M:=M1) qt MY rfl rfl rfl hv (aq _ _) (by omega) (fun u3 e3 J5 Sd=>?_);rw[az]at J5;obtain rfl:=bM (uC.symm.trans J5);refine ad ⟨rfl,rfl,rfl,?_⟩;refine aH (M:=M1) (A:=RT.er) (B:=RT.fd) Tryz.underlying49 rfl rfl qE (by decide) er0 rfl rfl (by decide) Sd (aq _ _) (fun u4 xL=>?_);refine ad ⟨rfl,rfl,rfl,?_⟩;refine cC (M:=M1) (A:=RT.fd) b9 rfl qE (by decide) rfl rfl rfl xL (aq _ _) (fun vt DH=>?_);have uE:=EO DH;obtain rfl:=kI DH;refine ad ⟨rfl,rfl,rfl,?_⟩;refine ae rfl rfl ?_;refine ad ⟨rfl,rfl,rfl,?_⟩;refine ae rfl rfl ?_;refine ad ⟨rfl,rfl,rfl,?_⟩;refine dq (M:=M1) qt MY rfl rfl rfl hv (aq _ _) (by omega) (fun u8 e8 J5 Xm=>?_);rw[az]at J5;obtain rfl:=bM (uC.symm.trans J5);refine ad ⟨rfl,rfl,rfl,?_⟩;refine aH (M:=M1) (A:=RT.er) (B:=RT.int .i64) Tryz.underlying49 rfl rfl I3 (by decide) XV rfl rfl (by decide) Xm (aq _ _) (fun u9 Ly=>?_);refine ad ⟨rfl,rfl,rfl,?_⟩;refine cc (M:=M1) ar rfl rfl Ly (aq _ _) (fun hez=>?_);refine ad ⟨rfl,rfl,rfl,?_⟩;refine dZ (places:=[(0,2),(2,1)]) kR xN SC rfl ⟨_,_,rfl,rfl,_,_,rfl,rfl,rfl⟩ (out:=[_,_,_]) ⟨0,[_,_],rfl,rfl,by simp[Value.cells],2,[_],rfl,rfl,by simp[Value.cells],rfl⟩ ?_;refine ad ⟨rfl,rfl,rfl,?_⟩;refine fz ?_;refine⟨iz ⟨fe,trivial⟩,?_⟩;have kp:=kg aC NH
    refine eQ (A:=RT.er) (hn:=by decide) (M:=M1) Tryz.underlying75 xN (by decide) rfl rfl hM (JZ (p:=e) uE hez) (.inl rfl) (fun PI PJ oC nT=>?_);replace hv:=hv.le nT.le;replace ho:=ho.bg nT;replace hM:=nT.lt hM;have:=S.size;replace S:=S.ay nT;refine(fun(kp:eg _ _ _)=>ad ⟨rfl,rfl,fun _=>kp,?_⟩) (by first|exact kp|exact kp.pO (by assumption)|exact kp.goN (by assumption)|exact kp.go (by assumption) (fun _ _ h=>by first|exact h|exact h.elim));refine cO (M:=M1) (base:=w0.heap.size) Tryz.underlying75 xN rfl rfl rfl rfl ho oC (aq _ _) (by simp;omega) (by simp;omega) (S.size) (fun Fb Fc PK AB nU=>?_);replace hv:=hv.le nU.le;replace oC:=oC.le nU.le;replace hM:=nU.lt hM;have:=S.size;replace S:=S.dh nU ho (bh _);replace ho:=AB;refine ad ⟨rfl,rfl,fun h=>absurd rfl h,?_⟩;refine ai rfl rfl ?_;refine ad ⟨rfl,rfl,fun h=>absurd rfl h,?_⟩;refine qp (ah (ae rfl rfl (bB rfl rfl rfl (by omega) (ai rfl rfl (ad ?_)))));refine⟨rfl,(i+1,Fb),(.cons rfl (.cons rfl (.cons rfl .nil))),?_,?_⟩
    ·exact⟨Fc,hM,S,by dsimp only;rw[cg,uC];exact ho,hv,by dsimp only;omega⟩
    ·dsimp only;omega
   ·refine cN (aj (ah (ae rfl rfl (ai rfl rfl (ad (aJ ?_))))))
    rw[show l.take 20=l.take i from by
     rcases cK i 20 with h|h
     ·rw[bp (by omega),bp (by omega)]
     ·rw[show i=20 by omega]]
    exact aO rfl rfl ⟨ho.close jH S (by first|omega|(simp;omega)),S.back⟩
  ·refine ao rfl rfl rfl rfl (ao rfl rfl rfl rfl (ax rfl rfl rfl (ad (hY rfl (cN (aj (ah (ae rfl rfl (ai rfl rfl (ad (aJ ?_)))))))))))
   rw[show l.take 20=l.take i from by
    rcases cK i 20 with h|h
    ·rw[bp (by omega),bp (by omega)]
    ·rw[show i=20 by omega]]
   exact aO rfl rfl ⟨ho.close jH S (by first|omega|(simp;omega)),S.back⟩
end Go.K
namespace Go.K
open Go.Proofs
namespace TKLive15
theorem MY:TI Tryz.prog 49 (.agg #[(.string ⟨#[]⟩),(.string ⟨#[]⟩),(.int .i64 0)]) 3 40:=by unfold TI;kernel_rfl
end TKLive15
open TKLive15
set_option maxRecDepth 10000
end Go.K
namespace Go.K
open Go.Proofs
namespace TKSet
theorem oG:TI Tryz.prog 159 (.slice none 0 0) 1 24:=by unfold TI;kernel_rfl
theorem Yd:TI Tryz.prog 161 (.agg #[(.int .i64 0),(.slice none 0 0)]) 2 32:=by unfold TI;kernel_rfl
theorem mB:TI Tryz.prog 165 (.int .u64 0) 1 8:=by unfold TI;kernel_rfl
theorem Ye:placesOf Tryz.prog 161=[(0,1),(1,1)].map some:=by kernel_rfl
theorem Yf:Enters Tryz.prog 145:=enters Tryz.func145 rfl (by decide)
theorem Ry:Enters Tryz.prog 188:=enters Tryz.func188 rfl (by decide)
theorem Yg:Enters Tryz.prog 189:=enters Tryz.func189 rfl (by decide)
end TKSet
open TKSet
set_option maxRecDepth 10000
theorem uz {w0:World} {k m x:Nat} (GR:∃e fr,w0.heap[0]? =some (.cells (Ej.map fun(k:Nat)=>Value.int .u8 (k:Int)).toArray e fr)) (hx:x=2^k*(2*m+1)) (hl:x<2^64):
  Spec Tryz.prog 190 #[.int .u64 x] w0 (fun v' w'=>v'= .int .i64 k∧w0=w'):=by
 obtain⟨et,ft,GR⟩:=GR;have hp:=Nat.two_pow_pos k;have vU:0<x:=by rw[hx];exact Nat.mul_pos hp (by omega)
 have hkx:2^k≤x:=by rw[hx];exact Nat.le_mul_of_pos_right _ (by omega)
 have hk:k<64:=by
  rcases cK k 64 with h2|h2
  ·exact h2
  ·have:=kz (n:=2) (by decide) h2;omega
 obtain⟨hd1,hd2⟩:=KI k hk;have kY:((Ej.map fun(k:Nat)=>Value.int .u8 (k:Int)).toArray)[(2^k*285870213051353865)%2^64/2^58]? =some (.int .u8 (k:Int)):=by rw[jJ,ey,hd2];rfl
 refine aX (args:=[_]) (fn:=Tryz.f190) Tryz.func190 rfl (n:=14) Tryz.ntmps190 (aj (ah (ai rfl rfl (ad (aj (aj (ah (ae rfl rfl (Rg.zS rfl rfl rfl (ad (T.zR rfl ((by omega)) ?_)))))))))));refine aV (aj (ah (ae rfl rfl (ae rfl rfl (Rg.Tv rfl rfl (bz (v':= .int .u64 ((2^64-x:Nat):Int)) (by rw[show(0:Int)-(x:Int)=((2^64-x:Nat):Int)-18446744073709551616 from by omega];simp[IntKind.wrap,IntKind.bits,IntKind.signed];omega) (Rg.and rfl rfl rfl (bz (v':= .int .u64 ((2^k:Nat):Int)) (by rw[wC x (2^64-x) hl (by omega),hx,Hz (by omega)]) (Rg.SK rfl rfl rfl (bz (v':= .int .u64 (((2^k*285870213051353865)%2^64:Nat):Int)) (congrArg _ (by rw[show((2^k:Nat):Int)*285870213051353865=((2^k*285870213051353865:Nat):Int)from by rw[Int.natCast_mul];rfl];exact wG _)) (Rg.shr rfl rfl rfl (by decide) ?_)))))))))));refine bz (v':= .int .u64 (((2^k*285870213051353865)%2^64/2^58:Nat):Int)) (congrArg _ (KJ _ 58 (by decide))) (Rg.KH (len:=64) Tryz.underlying276 I5 rfl rfl rfl (by omega) (aE (v:= .int .u8 (k:Int)) b4 rfl rfl rfl GR (by rw[az];exact kY) (Rg.rH b4 ar rfl rfl (by omega) (ai rfl rfl (ad (aJ ?_))))));exact aO rfl rfl ⟨rfl,rfl⟩
theorem Cj {M:aA} {w0:World} {n:Nat} {ws:List Nat} {bs bw:Nat} (h:ek 161 165 n ws M w0 bs bw) {i:Int}:
  Spec Tryz.prog 188 #[.pointer (some ⟨bs,0,none⟩),.int .i64 i] w0 (fun v' w'=>v'= .bool (decide (0≤i∧i<n))∧w0=w'):=by
 have hS:=h.s;have hW:=h.w;have hlen:=h.len;have fv:=h.ok;have DR:=h.nn;refine aX (args:=[_,_]) (fn:=Tryz.f188) Tryz.func188 rfl (n:=15) Tryz.ntmps188 (aj (ah (ai rfl rfl (ad (aj (ah (ae rfl rfl (dy rfl rfl rfl (ae rfl rfl ?_)))))))));refine aG (g:=7) rfl (fun fF=>?_) (fun fF=>?_)
 ·refine al rfl rfl (ae rfl rfl (al rfl rfl (ae rfl rfl (al rfl rfl (aQ rfl ⟨_,rfl⟩ rfl (al rfl rfl (aS cx rfl rfl I3 (by decide) rfl rfl (al rfl rfl (aE ar rfl rfl rfl (by assumption) rfl (al rfl rfl (cd rfl rfl rfl ?_)))))))))));refine aR rfl rfl rfl (ai rfl rfl (ad (aJ ?_)))
  first
  |exact aO rfl rfl ⟨congrArg Value.bool (decide_eq_decide.2 (by omega)),rfl⟩
  |exact aO rfl rfl ⟨congrArg Value.bool (eF (decide_eq_false (by omega))),rfl⟩
 ·refine ao rfl rfl rfl rfl (ao rfl rfl rfl rfl (ao rfl rfl rfl rfl (ao rfl rfl rfl rfl (ao rfl rfl rfl rfl (ao rfl rfl rfl rfl (ax rfl rfl rfl (ai rfl rfl (ad (aJ ?_)))))))))
  first
  |exact aO rfl rfl ⟨congrArg Value.bool (decide_eq_decide.2 (by omega)),rfl⟩
  |exact aO rfl rfl ⟨congrArg Value.bool (eF (decide_eq_false (by omega))),rfl⟩
theorem GS {M:aA} {w0:World} {n:Nat} {ws:List Nat} {bs bw:Nat} (h:ek 161 165 n ws M w0 bs bw) {i:Int}:
  Spec Tryz.prog 189 #[.pointer (some ⟨bs,0,none⟩),.int .i64 i] w0 (fun v' w'=>v'= .bool (Jh n ws i)∧w0=w'):=by
 have hS:=h.s;have hW:=h.w;have hlen:=h.len;have fv:=h.ok;have DR:=h.nn;refine aX (args:=[_,_]) (fn:=Tryz.f189) Tryz.func189 rfl (n:=23) Tryz.ntmps189 (aj (ah (ai rfl rfl (ad (aj (ah (ae rfl rfl (ae rfl rfl ?_))))))));refine aP rfl rfl Ry (Cj h) (fun r wc h=>?_);obtain⟨rfl,rfl⟩:=h;refine ae rfl rfl ?_;refine aG (g:=8) rfl (fun ga=>?_) (fun ga=>?_)
 ·obtain⟨j,rfl⟩:∃j:Nat,i=j:=⟨i.toNat,by omega⟩;refine al rfl rfl (ae rfl rfl (al rfl rfl (aQ rfl ⟨_,rfl⟩ rfl (al rfl rfl (aS cx rfl rfl oG (by decide) rfl rfl (al rfl rfl (aE bN rfl rfl rfl (by assumption) rfl (al rfl rfl (ae rfl rfl (al rfl rfl (Rg.rF rfl rfl rfl (by omega) ?_)))))))))));refine al rfl rfl (Rg.tY bN mB rfl rfl rfl (by omega) (al rfl rfl (aE gH rfl rfl rfl hW (v:= .int .u64 ((ws.getD (j/64) 0:Nat):Int)) (by rw[show(((j:Int)/64)).toNat=j/64 from by omega];exact fw (by omega)) (al rfl rfl (ae rfl rfl (al rfl rfl (Rg.rG rfl rfl rfl (by omega) (al rfl rfl (Rg.shr rfl rfl rfl (by omega) (bz (v':= .int .u64 ((ws.getD (j/64) 0/2^(j%64):Nat):Int)) (congrArg _ (by rw[show((j:Int)%64)=((j%64:Nat):Int)from by omega];exact KJ _ _ (by omega))) (al rfl rfl ?_)))))))))));refine Rg.and rfl rfl rfl (bz (v':= .int .u64 ((ws.getD (j/64) 0/2^(j%64)%2:Nat):Int)) (congrArg _ (by have:=wC (ws.getD (j/64) 0/2^(j%64)) 1 (Nat.lt_of_le_of_lt (Nat.div_le_self _ _) (fv.get _)) (by decide);rw[Nat.and_one_is_mod]at this;exact this)) (al rfl rfl (Rg.zS rfl rfl rfl (aR rfl rfl rfl (ai rfl rfl (ad (aJ ?_)))))))
  first
  |exact aO rfl rfl ⟨congrArg Value.bool (by unfold Jh bit;rw[decide_eq_true ga,dv,az,Nat.testBit_eq_decide_div_mod_eq];exact decide_eq_decide.2 (by omega)),rfl⟩
  |exact aO rfl rfl ⟨congrArg Value.bool (by unfold Jh;rw[decide_eq_false ga,fP]),rfl⟩
 ·refine ao rfl rfl rfl rfl (ao rfl rfl rfl rfl (ao rfl rfl rfl rfl (ao rfl rfl rfl rfl (ao rfl rfl rfl rfl (ao rfl rfl rfl rfl (ao rfl rfl rfl rfl (ao rfl rfl rfl rfl (ao rfl rfl rfl rfl (ao rfl rfl rfl rfl (ao rfl rfl rfl rfl (ao rfl rfl rfl rfl ?_)))))))))));refine ao rfl rfl rfl rfl (ax rfl rfl rfl (ai rfl rfl (ad (aJ ?_))))
  first
  |exact aO rfl rfl ⟨congrArg Value.bool (by unfold Jh bit;rw[decide_eq_true ga,dv,az,Nat.testBit_eq_decide_div_mod_eq];exact decide_eq_decide.2 (by omega)),rfl⟩
  |exact aO rfl rfl ⟨congrArg Value.bool (by unfold Jh;rw[decide_eq_false ga,fP]),rfl⟩
theorem GU {M:aA} {w0:World} {n:Nat} {ws:List Nat} {bs bw:Nat} (h:ek 161 165 n ws M w0 bs bw) {i:Int} (hb:∀j,bit ws j=true→j<n):
  Spec Tryz.prog 145 #[.pointer (some ⟨bs,0,none⟩),.int .i64 i,.bool true] w0 (fun v' w'=>∃qD,ek 161 165 n qD M w' bs bw∧(∀j:Nat,bit qD j=(bit ws j&&decide ((j:Int)≠i)))∧Step M w0 M w' (fun b=>b=bw)):=by
 have hS:=h.s;have hW:=h.w;have hlen:=h.len;have fv:=h.ok;have DR:=h.nn;have Yh:∀b:Nat,b=bw→M b:=fun b hb=>by rw[hb];exact h.mw
 refine aX (args:=[_,_,_]) (fn:=Tryz.f145) Tryz.func145 rfl (n:=31) Tryz.ntmps145 (aj (ah (ai rfl rfl (ad (aj (aj (ah (ae rfl rfl (ae rfl rfl ?_)))))))));refine aP rfl rfl Ry (Cj h) (fun r wc h=>?_);obtain⟨rfl,rfl⟩:=h;refine Rg.not rfl rfl (bz (v':= .bool (decide (¬(0≤i∧i<n)))) (by rw[decide_not]) (ae rfl rfl ?_));refine aG (g:=11) rfl (fun A8=>?_) (fun A8=>?_)
 ·refine ao rfl rfl rfl rfl (ao rfl rfl rfl rfl (ao rfl rfl rfl rfl (ao rfl rfl rfl rfl (ao rfl rfl rfl rfl (aR rfl rfl rfl (ad (ly rfl (aj (ah (ai rfl rfl (ad ?_)))))))))));refine aJ ?_
  have G1:bit ws i.toNat=false∨i<0:=by
   by_cases h0:i<0
   ·exact .inr h0
   ·left
    cases Nw:bit ws i.toNat with
    |false=>rfl
    |true=>
     have:=hb _ Nw
     first
     |omega
     |(exfalso;apply c1;unfold Jh;rw[Nw,decide_eq_true (by omega)];rfl)
  refine aO rfl rfl ⟨ws,h,fun j=>?_,(an _ _).cb (fun _ h=>h.elim) Yh⟩;by_cases hj:(j:Int)=i
  ·rw[decide_eq_false (fun h=>h hj),Bool.and_false];rcases G1 with h1|h1
   ·rw[show i.toNat=j from by omega]at h1;exact h1
   ·omega
  ·rw[decide_eq_true hj,ig]
 ·refine al rfl rfl (ae rfl rfl (al rfl rfl (ae rfl rfl (al rfl rfl ?_))));refine aP rfl rfl Yg (GS h) (fun r wc h=>?_);obtain⟨rfl,rfl⟩:=h;refine al rfl rfl (ae rfl rfl (al rfl rfl (Rg.bne ju rfl rfl rfl (ax rfl rfl rfl (ad ?_)))));refine bI rfl (fun c1=>?_) (fun c1=>?_)
  ·refine aj (ah (ai rfl rfl (ad (aJ ?_))))
   have G1:bit ws i.toNat=false∨i<0:=by
    by_cases h0:i<0
    ·exact .inr h0
    ·left
     cases Nw:bit ws i.toNat with
     |false=>rfl
     |true=>
      have:=hb _ Nw
      first
      |omega
      |(exfalso;apply c1;unfold Jh;rw[Nw,decide_eq_true (by omega)];rfl)
   refine aO rfl rfl ⟨ws,h,fun j=>?_,(an _ _).cb (fun _ h=>h.elim) Yh⟩;by_cases hj:(j:Int)=i
   ·rw[decide_eq_false (fun h=>h hj),Bool.and_false];rcases G1 with h1|h1
    ·rw[show i.toNat=j from by omega]at h1;exact h1
    ·omega
   ·rw[decide_eq_true hj,ig]
  ·refine aV (aj ?_);obtain⟨j,rfl⟩:∃j:Nat,i=j:=⟨i.toNat,by omega⟩;apply T.BG (M:=M) mixed [] [b8.eq _,b8.eq _,b8.eq _,b8.eq (.slice (some ⟨bw,0,none⟩) ws.length ws.length),b8.eq _,b8.eq _,b8.eq (.pointer (some ⟨bw,((j:Int)/64).toNat,none⟩)),b8.eq (.int .u64 ((ws.getD (j/64) 0:Nat):Int)),b8.eq _,b8.eq _,b8.eq (.int .u64 ((2^(j%64):Nat):Int)),b8.eq (.int .u64 (((ws.getD (j/64) 0^^^2^(j%64)):Nat):Int)),b8.eq (.pointer (some ⟨bw,((j:Int)/64).toNat,none⟩))] 13
   ·rfl
   ·rfl
   ·rfl
   ·rfl
   ·rfl
   ·exact fun p hp=>by cases hp
   ·exact qX.none
   ·refine aF ?_ ?_
    ·intro wD E sD;refine ae rfl rfl ?_;exact ad ⟨rfl,rfl,_,rfl,rfl,an _ _⟩
    refine aF ?_ ?_
    ·intro wD E sD;refine aw (aQ rfl ⟨_,rfl⟩ rfl ?_);exact ad ⟨rfl,rfl,_,rfl,rfl,an _ _⟩
    refine aF ?_ ?_
    ·intro wD E sD;refine aw (aS cx rfl rfl oG (by decide) rfl rfl ?_);exact ad ⟨rfl,rfl,_,rfl,rfl,an _ _⟩
    refine aF ?_ ?_
    ·intro wD E sD;refine aw (aE bN rfl rfl rfl (bV sD (by assumption)) rfl ?_);exact ad ⟨rfl,rfl,_,rfl,rfl,an _ _⟩
    refine aF ?_ ?_
    ·intro wD E sD;refine ae rfl rfl ?_;exact ad ⟨rfl,rfl,_,rfl,rfl,an _ _⟩
    refine aF ?_ ?_
    ·intro wD E sD;refine aw (Rg.rF rfl rfl rfl (by omega) ?_);exact ad ⟨rfl,rfl,_,rfl,rfl,an _ _⟩
    refine aF ?_ ?_
    ·intro wD E sD;refine aw (aw (Rg.tY bN mB rfl rfl rfl (by omega) ?_));exact ad ⟨rfl,rfl,_,rfl,rfl,an _ _⟩
    refine aF ?_ ?_
    ·intro wD E sD;refine aw (aE gH rfl rfl rfl (sD.aI hW) (v:= .int .u64 ((ws.getD (j/64) 0:Nat):Int)) (by rw[show(((j:Int)/64)).toNat=j/64 from by omega];exact fw (by omega)) ?_);exact ad ⟨rfl,rfl,_,rfl,rfl,an _ _⟩
    refine aF ?_ ?_
    ·intro wD E sD;refine ae rfl rfl ?_;exact ad ⟨rfl,rfl,_,rfl,rfl,an _ _⟩
    refine aF ?_ ?_
    ·intro wD E sD;refine aw (Rg.rG rfl rfl rfl (by omega) ?_);exact ad ⟨rfl,rfl,_,rfl,rfl,an _ _⟩
    refine aF ?_ ?_
    ·intro wD E sD;refine aw (Rg.shl rfl rfl rfl (by omega) (bz (v':= .int .u64 ((2^(j%64):Nat):Int)) (congrArg _ (by rw[show((j:Int)%64)=((j%64:Nat):Int)from by omega];exact OA _ (by omega))) ?_));exact ad ⟨rfl,rfl,_,rfl,rfl,an _ _⟩
    refine aF ?_ ?_
    ·intro wD E sD;refine aw (aw (Rg.xor rfl rfl rfl (bz (v':= .int .u64 (((ws.getD (j/64) 0^^^2^(j%64)):Nat):Int)) (congrArg _ (Oz _ _ (fv.get _) (Nat.pow_lt_pow_right (by decide) (by omega)))) ?_)));exact ad ⟨rfl,rfl,_,rfl,rfl,an _ _⟩
    refine aF ?_ ?_
    ·intro wD E sD;refine aw (aw (aw (aw (aw (aw (aw (aw (aw (aw (aw (aw ?_)))))))))));refine aw (aw (Rg.tY bN mB rfl rfl rfl (by omega) ?_));exact ad ⟨rfl,rfl,_,rfl,rfl,an _ _⟩
    exact bD.nil
   ·intro O4 mh;refine aw (aw (aw (aw (aw (aw (aw (aw (aw (aw (aw (aw ?_)))))))))));refine aw ?_;refine bQ (M:=M) (u:= .int .u64 ((ws.getD (j/64) 0:Nat):Int)) mB rfl rfl (mh.aI hW) (by rw[show((j:Int)/64).toNat=j/64 from by omega];exact fw (by omega)) rfl h.mw (fun w5 J6 s5=>?_);rw[show((j:Int)/64).toNat=j/64 from by omega,lM]at J6;refine ad (aj (ah (ai rfl rfl (ad (aJ ?_)))));have hX:(ws.getD (j/64) 0^^^2^(j%64))<2^64:=Nat.xor_lt_two_pow (fv.get _) (Nat.pow_lt_pow_right (by decide) (by omega));refine aO rfl rfl ⟨ws.set (j/64) (ws.getD (j/64) 0^^^2^(j%64)),(h.step mh (fun h=>h) (fun h=>h)).put s5 (by simp) J6 (fv.set hX),fun t=>?_,(mh.cb (fun _ h=>h.elim) Yh).trans s5 (fun _ _ h=>h)⟩
    have Yi:bit ws j=true:=by
     have:=dV.1 c1;unfold Jh at this;rw[az,bC]at this;exact this.2
    rw[Eg fv (by omega)];by_cases ht:t=j
    ·subst ht;rw[Yi];simp
    ·rw[decide_eq_false ht,Bool.xor_false,decide_eq_true (by omega),ig]
theorem zI {M:aA} {w0:World} {n:Nat} {ws:List Nat} {bs bw:Nat} (h:ek 161 165 n ws M w0 bs bw) {i:Int} (hb:∀j,bit ws j=true→j<n):
  Spec Tryz.prog 102 #[.pointer (some ⟨bs,0,none⟩),.int .i64 i] w0 (fun v' w'=>∃qD,ek 161 165 n qD M w' bs bw∧(∀j:Nat,bit qD j=(bit ws j&&decide ((j:Int)≠i)))∧Step M w0 M w' (fun b=>b=bw)):=by
 refine aX (args:=[_,_]) (fn:=Tryz.f102) Tryz.func102 rfl (n:=8) Tryz.ntmps102 (aj (ah (ai rfl rfl (ad (aj (ah (ae rfl rfl (ae rfl rfl ?_))))))));refine aP rfl rfl Yf (GU h hb) (fun r1 w1 h=>?_);obtain⟨qD,h1,h2,h3⟩:=h;refine ai rfl rfl (ad (aJ ?_));exact aO rfl rfl ⟨qD,h1,h2,h3⟩
theorem ql {M:aA} {w0:World} {n:Nat} (hn:n≤1099511627776):
  Spec Tryz.prog 143 #[.int .i64 n] w0 (fun v' w'=>∃bs bw,v'= .pointer (some ⟨bs,0,none⟩)∧w0.heap.size≤bs∧w0.heap.size≤bw∧Step M w0 (ins (ins M bw) bs) w' aC∧ek 161 165 n (List.replicate ((n+63)/64) 0) (ins (ins M bw) bs) w' bs bw):=by
 refine aX (args:=[_]) (fn:=Tryz.f143) Tryz.func143 rfl (n:=13) Tryz.ntmps143 (aj (ah (ai rfl rfl (ad (aj (ah (ae rfl rfl (Rg.max2 rfl rfl rfl (bz (v':= .int .i64 n) (congrArg _ (by omega)) (ai rfl rfl (ad ?_)))))))))));refine aj (ah (ae rfl rfl (ae rfl rfl (bB rfl rfl rfl (by omega) (gA rfl rfl rfl (by omega) (Rg.rF rfl rfl rfl (by omega) (bz (v':= .int .i64 (((n+63)/64:Nat):Int)) (congrArg _ (by omega)) ?_)))))));refine Rg.mk0 M bN mB rfl rfl rfl rfl (by omega) (by omega) (fun bw w1 z1 YG h1 s1=>?_);refine dZ (places:=[(0,1),(1,1)]) cx Yd Ye rfl ⟨_,_,rfl,rfl,_,_,rfl,rfl,rfl⟩ (out:=[_,_]) ⟨0,[_],rfl,rfl,by simp[Value.cells],1,[_],rfl,rfl,by simp[Value.cells],rfl⟩ ?_;refine oN (ins M bw) rfl rfl (fun bs w2 z2 z2' h2 s2=>?_);have y1:=s1.size;refine ai rfl rfl (ad (aJ ?_));refine aO rfl rfl ⟨bs,bw,rfl,by omega,z1,s1.ay s2,.inl rfl,.inr (.inl rfl),by omega,by rw[List.length_replicate];exact h2,?_,by simp,fun x hx=>by rw[List.eq_of_mem_replicate hx];decide,hn⟩;have:=s2.aI h1;rw[this];simp[lL]
end Go.K
namespace Go.K
open Go.Proofs
namespace TKSet4
theorem oG:TI Tryz.prog 159 (.slice none 0 0) 1 24:=by unfold TI;kernel_rfl
theorem mB:TI Tryz.prog 165 (.int .u64 0) 1 8:=by unfold TI;kernel_rfl
theorem Yj:Enters Tryz.prog 105:=enters Tryz.func105 rfl (by decide)
theorem Yk:Enters Tryz.prog 106:=enters Tryz.func106 rfl (by decide)
theorem IT:Enters Tryz.prog 143:=enters Tryz.func143 rfl (by decide)
theorem Rz:Enters Tryz.prog 149:=enters Tryz.func149 rfl (by decide)
end TKSet4
open TKSet4
set_option maxRecDepth 10000
theorem tG {M:aA} {w0:World} {n:Nat} {ws:List Nat} {bs bw:Nat} (h:ek 161 165 n ws M w0 bs bw) {k:Nat} (hk:k≤1099511627776):
  Spec Tryz.prog 149 #[.pointer (some ⟨bs,0,none⟩),.int .i64 (k:Int)] w0 (fun v' w'=>v'= .int .u64 ((ws.getD k 0:Nat):Int)∧w0=w'):=by
 have hS:=h.s;have hW:=h.w;have hlen:=h.len;have fv:=h.ok;have DR:=h.nn;refine aX (args:=[_,_]) (fn:=Tryz.f149) Tryz.func149 rfl (n:=19) Tryz.ntmps149 (aj (ah (ai rfl rfl (ad (aj (aj (ah (ae rfl rfl (ae rfl rfl (aQ rfl ⟨_,rfl⟩ rfl (aS cx rfl rfl oG (by decide) rfl rfl ?_)))))))))));refine aE bN rfl rfl rfl (by assumption) rfl (Rg.pW bN rfl rfl (cd rfl rfl rfl (ad ?_)));refine bI rfl (fun c1=>?_) (fun c1=>?_)
 ·refine aj (ah (ae rfl rfl (aQ rfl ⟨_,rfl⟩ rfl (aS cx rfl rfl oG (by decide) rfl rfl (aE bN rfl rfl rfl (by assumption) rfl (ae rfl rfl (Rg.tY bN mB rfl rfl rfl (by omega) (aE gH rfl rfl rfl hW (v:= .int .u64 ((ws.getD k 0:Nat):Int)) (by rw[az];exact fw (by omega)) (ai rfl rfl (ad (aJ ?_)))))))))));exact aO rfl rfl ⟨rfl,rfl⟩
 ·refine aV (aj (ah (ai rfl rfl (ad (aJ ?_)))));exact aO rfl rfl ⟨by rw[bG,dH (by omega)];rfl,rfl⟩
theorem Dp {w0:World} {p q:Nat} (hp:p<2^64) (hq:q<2^64):
  Spec Tryz.prog 106 #[.int .u64 (p:Int),.int .u64 (q:Int)] w0 (fun v' w'=>v'= .int .u64 ((p&&&q:Nat):Int)∧w0=w'):=by
 refine aX (args:=[_,_]) (fn:=Tryz.f106) Tryz.func106 rfl (n:=8) Tryz.ntmps106 (aj (ah (ai rfl rfl (ad (aj (ah (ae rfl rfl (ae rfl rfl (Rg.and rfl rfl rfl (bz (v':= .int .u64 ((p&&&q:Nat):Int)) (congrArg _ (wC p q hp hq)) (ai rfl rfl ?_)))))))))));refine ad (aJ ?_);exact aO rfl rfl ⟨rfl,rfl⟩
theorem IU {us ws vs:List Nat} (j:Nat) (h:us.getD (j/64) 0=ws.getD (j/64) 0&&&vs.getD (j/64) 0):bit us j=(bit ws j&&bit vs j):=by
 unfold bit;rw[h,Nat.testBit_and]
theorem GV {p q:Nat} (hp:p<2^64):p&&&q<2^64:=Nat.lt_of_le_of_lt Nat.and_le_left hp
theorem GW {M:aA} {w0:World} {n:Nat} {ws vs:List Nat} {bs bw cs cw:Nat} (hM:Lt M w0) (h:ek 161 165 n ws M w0 bs bw) (h':ek 161 165 n vs M w0 cs cw):
  Spec Tryz.prog 105 #[.pointer (some ⟨bs,0,none⟩),.pointer (some ⟨cs,0,none⟩),.func (.func 106) #[] #[]] w0 (fun v' w'=>∃os ow us M',v'= .pointer (some ⟨os,0,none⟩)∧w0.heap.size≤os∧w0.heap.size≤ow∧Step M w0 M' w' aC∧ek 161 165 n us M' w' os ow∧∀j,bit us j=(bit ws j&&bit vs j)):=by
 have hS:=h.s;have hW:=h.w;have hlen:=h.len;have fv:=h.ok;have DR:=h.nn;have hS':=h'.s;have Yl:=h'.w;have aa2:=h'.len;have Ym:=h'.ok;refine aX (args:=[_,_,_]) (fn:=Tryz.f105) Tryz.func105 rfl (n:=43) Tryz.ntmps105 (aj (ah (ai rfl rfl (ad (aj ?_)))));apply T.Oj 9 mixed rfl rfl rfl rfl rfl;intro DA EB;have jd:=EB M;refine ae rfl rfl ?_;refine ad ⟨rfl,rfl,rfl,?_⟩;refine aQ rfl ⟨_,rfl⟩ rfl ?_;refine ad ⟨rfl,rfl,rfl,?_⟩;refine aS cx rfl rfl I3 (by decide) rfl rfl ?_;refine ad ⟨rfl,rfl,rfl,?_⟩;refine aE ar rfl rfl rfl (by first|assumption|exact bV jd (by assumption)) rfl ?_;refine ad ⟨rfl,rfl,rfl,?_⟩;refine ae rfl rfl ?_;refine ad ⟨rfl,rfl,rfl,?_⟩;refine aQ rfl ⟨_,rfl⟩ rfl ?_;refine ad ⟨rfl,rfl,rfl,?_⟩;refine aS cx rfl rfl I3 (by decide) rfl rfl ?_;refine ad ⟨rfl,rfl,rfl,?_⟩;refine aE ar rfl rfl rfl (by first|assumption|exact bV jd (by assumption)) rfl ?_;refine ad ⟨rfl,rfl,rfl,?_⟩;refine Rg.max2 rfl rfl rfl (bz (v':= .int .i64 n) (congrArg _ (by omega)) ?_);refine ad ⟨rfl,rfl,rfl,?_⟩;refine fz ?_;have Nk:=h.step jd (fun h=>h) (fun h=>h);have Yn:=h'.step jd (fun h=>h) (fun h=>h);refine aP rfl rfl IT (ql (M:=M) DR) (fun r1 w1 h=>?_);obtain⟨os,ow,rfl,z1,z2,s1,MZ⟩:=h;have zD:=jd.size;obtain⟨M1,re⟩:∃M1,M1=ins (ins M ow) os:=⟨_,rfl⟩;rw[←re]at s1 MZ;have h1:=Nk.step s1 (fun h=>h) (fun h=>h);have G5:=Yn.step s1 (fun h=>h) (fun h=>h);have hOS:=MZ.s;have lbs:=ak hS;have lbw:=ak hW;have lcs:=ak hS';have lcw:=ak Yl;refine ai rfl rfl (ad (aj (aj (ah (ae rfl rfl (aQ rfl ⟨_,rfl⟩ rfl (aS cx rfl rfl oG (by decide) rfl rfl (aE bN rfl rfl rfl hOS rfl (Rg.pW bN rfl rfl (bz (v':= .int .i64 (ws.length:Int)) (congrArg _ (by rw[List.length_replicate];omega)) (ae rfl rfl ?_)))))))))))
 refine ad (bj ?_);refine dF (σ:=Nat×List Nat) (fun q=>[(0,.pointer (some ⟨bs,0,none⟩)),(1,.pointer (some ⟨cs,0,none⟩)),(2,.func (.func 106) #[] #[]),(7,.pointer (some ⟨os,0,none⟩)),(23,.int .i64 (ws.length:Int)),(24,.int .i64 q.1)]) (fun q w=>q.1≤ws.length∧ek 161 165 n ws M1 w bs bw∧ek 161 165 n vs M1 w cs cw∧ek 161 165 n q.2 M1 w os ow∧(∀k,k<q.1→q.2.getD k 0=ws.getD k 0&&&vs.getD k 0)∧Step M w0 M1 w aC) (fun q=>ws.length-q.1) (0,List.replicate ((n+63)/64) 0) (.cons rfl (.cons rfl (.cons rfl (.cons rfl (.cons rfl (.cons rfl .nil)))))) ?_ ?_
 ·exact⟨bH _,h1,G5,MZ,fun k hk=>absurd hk (jv _),jd.ay s1⟩
 ·rintro⟨k,us⟩ w2 ⟨hk,h2,tU,rf,o0,S2⟩;dsimp only at hk rf o0 ⊢;have afo:=rf.s;have NF:=rf.len;refine aj (ah (cd rfl rfl rfl (ad (aj ?_))));refine bI rfl (fun c3=>?_) (fun c3=>?_)
  ·refine aV (aj (bj (aj (ah (ae rfl rfl (ai rfl rfl (ad ?_)))))));apply T.D4 [0,1,2,3,4,5,6,7,9,10,8,11,12,13,14] 10 [0,1,2,3,4,5,8,9] 3 aC mixed
   ·simp+decide only[uN,pR,ic,List.map_nil,tN,tO,List.map_toArray,fu,mC,List.idxOf_cons,cond_true,cond_false,Nat.reduceBEq,Nat.reduceAdd,beq_self_eq_true];rfl
   ·rfl
   ·rfl
   ·rfl
   ·rfl
   ·rfl
   ·rfl
   intro NH Qg;have xo:=Qg M1;refine ae rfl rfl ?_;refine ad ⟨rfl,rfl,rfl,?_⟩;refine aQ rfl ⟨_,rfl⟩ rfl ?_;refine ad ⟨rfl,rfl,rfl,?_⟩;refine aS cx rfl rfl oG (by decide) rfl rfl ?_;refine ad ⟨rfl,rfl,rfl,?_⟩;have RA:=rf.step xo (fun h=>h) (fun h=>h);have hD2:=h2.step xo (fun h=>h) (fun h=>h);have RB:=tU.step xo (fun h=>h) (fun h=>h);have Yo:=RA.s;refine aE bN rfl rfl rfl Yo rfl ?_;refine ad ⟨rfl,rfl,rfl,?_⟩;refine ae rfl rfl ?_;refine ad ⟨rfl,rfl,rfl,?_⟩;refine ae rfl rfl ?_;refine ad ⟨rfl,rfl,rfl,?_⟩;refine ae rfl rfl ?_;refine ad ⟨rfl,rfl,rfl,?_⟩;refine ae rfl rfl ?_;refine ad ⟨rfl,rfl,rfl,?_⟩;refine ae rfl rfl ?_;refine ad ⟨rfl,rfl,rfl,?_⟩;refine ae rfl rfl ?_;refine ad ⟨rfl,rfl,rfl,?_⟩;refine fz ?_;refine⟨iz ⟨fe,⟨bR.nilCheck rfl,⟨jw cx rfl oG (by decide),⟨fJ rfl (by assumption) (by first|assumption|exact fun h=>h|(intro h;have h:_=_:=h;omega)),⟨fe,⟨fe,⟨fe,⟨fe,trivial⟩⟩⟩⟩⟩⟩⟩⟩,?_⟩;have kp:=kg aC NH;refine aP rfl rfl Rz (tG hD2 (k:=k) (by omega)) (fun r wc h=>?_);obtain⟨rfl,rfl⟩:=h;refine(fun(kp:eg _ _ _)=>ad ⟨rfl,rfl,fun _=>kp,?_⟩) (by first|exact kp|exact kp.pO (by assumption)|exact kp.goN (by assumption)|exact kp.go (by assumption) (fun _ _ h=>by first|exact h|exact h.elim));refine aP rfl rfl Rz (tG RB (k:=k) (by omega)) (fun r wc h=>?_);obtain⟨rfl,rfl⟩:=h;refine(fun(kp:eg _ _ _)=>ad ⟨rfl,rfl,fun _=>kp,?_⟩) (by first|exact kp|exact kp.pO (by assumption)|exact kp.goN (by assumption)|exact kp.go (by assumption) (fun _ _ h=>by first|exact h|exact h.elim));refine Rg.nK (first:=[]) (captured:=[]) rfl rfl rfl Yk (Dp (fv.get k) (Ym.get k)) (fun R6 EK hc=>?_);obtain⟨rfl,rfl⟩:=hc;refine(fun(kp:eg _ _ _)=>ad ⟨rfl,rfl,fun _=>kp,?_⟩) (by first|exact kp|exact kp.pO (by assumption)|exact kp.goN (by assumption)|exact kp.go (by assumption) (fun _ _ h=>by first|exact h|exact h.elim))
   refine Rg.tY bN mB rfl rfl rfl (by omega) ?_;refine ad ⟨rfl,rfl,fun h=>absurd rfl h,?_⟩;refine bQ (M:=M1) (u:= .int .u64 ((us.getD k 0:Nat):Int)) mB rfl rfl RA.w (by rw[az];exact fw (by omega)) rfl RA.mw (fun w5 J6 s5=>?_);rw[az,lM]at J6;refine ad ⟨rfl,rfl,fun h=>absurd rfl h,?_⟩;refine qp (ah (bB rfl rfl rfl (by omega) (ae rfl rfl (ad ?_))));refine⟨rfl,(k+1,us.set k (ws.getD k 0&&&vs.getD k 0)),(.cons rfl (.cons rfl (.cons rfl (.cons rfl (.cons rfl (.cons rfl .nil)))))),?_,?_⟩
   ·refine⟨by dsimp only;omega,hD2.step s5 (by omega) (by omega),RB.step s5 (by omega) (by omega),RA.put s5 (by simp) J6 (RA.ok.set (GV (fv.get k))),fun t ht=>?_,(S2.ay xo).cu s5 (fun b (hb:b=ow)=>by omega)⟩;dsimp only at ht ⊢;rw[sd _ _ _ _ (by omega)];by_cases HR:t=k
    ·rw[if_pos HR,HR]
    ·rw[if_neg HR];exact o0 t (by omega)
   ·dsimp only;omega
  ·refine cN (aj (ah (ae rfl rfl (ai rfl rfl (ad (aJ ?_))))))
   exact aO rfl rfl ⟨os,ow,us,M1,rfl,by omega,by omega,S2,rf,fun j=>IU j (by
    rcases cK (j/64) k with IK|IK
    ·exact o0 _ IK
    ·rw[bG,dH (by omega),bG,dH (by omega)];simp)⟩
theorem Dq {M:aA} {w0:World} {n:Nat} {ws vs:List Nat} {bs bw cs cw:Nat} (hM:Lt M w0) (h:ek 161 165 n ws M w0 bs bw) (h':ek 161 165 n vs M w0 cs cw):
  Spec Tryz.prog 55 #[.pointer (some ⟨bs,0,none⟩),.pointer (some ⟨cs,0,none⟩)] w0 (fun v' w'=>∃os ow us M',v'= .pointer (some ⟨os,0,none⟩)∧w0.heap.size≤os∧w0.heap.size≤ow∧Step M w0 M' w' aC∧ek 161 165 n us M' w' os ow∧∀j,bit us j=(bit ws j&&bit vs j)):=by
 refine aX (args:=[_,_]) (fn:=Tryz.f55) Tryz.func55 rfl (n:=8) Tryz.ntmps55 (aj (ah (ai rfl rfl (ad (aj (ah (ae rfl rfl (ae rfl rfl ?_))))))));refine aP rfl rfl Yj (GW hM h h') (fun r2 w2 hc=>?_);refine ai rfl rfl (ad (aJ ?_));exact aO rfl rfl hc
end Go.K
namespace Go.K
open Go.Proofs
namespace TKSet3
theorem oG:TI Tryz.prog 159 (.slice none 0 0) 1 24:=by unfold TI;kernel_rfl
theorem mB:TI Tryz.prog 165 (.int .u64 0) 1 8:=by unfold TI;kernel_rfl
theorem RC:Enters Tryz.prog 147:=enters Tryz.func147 rfl (by decide)
theorem Yp:Enters Tryz.prog 190:=enters Tryz.func190 rfl (by decide)
end TKSet3
open TKSet3
set_option maxRecDepth 10000
theorem tH {M:aA} {w0:World} {n:Nat} {ws:List Nat} {bs bw:Nat} (h:ek 161 165 n ws M w0 bs bw) {i:Int} (hi: -1≤i∧i≤1099511627776) (hb:∀j,bit ws j=true→j<n) (GR:∃e fr,w0.heap[0]? =some (.cells (Ej.map fun(k:Nat)=>Value.int .u8 (k:Int)).toArray e fr)):
  Spec Tryz.prog 147 #[.pointer (some ⟨bs,0,none⟩),.int .i64 i] w0 (fun v' w'=>(∃r,v'= .int .i64 r∧Ji ws i.toNat r∧ -1≤r∧r≤1099511627776)∧w0=w'):=by
 have hS:=h.s;have hW:=h.w;have hlen:=h.len;have fv:=h.ok;have DR:=h.nn;refine aX (args:=[_,_]) (fn:=Tryz.f147) Tryz.func147 rfl (n:=36) Tryz.ntmps147 (aj (ah (ai rfl rfl (ad (aj (ah (ae rfl rfl (Rg.max2 rfl rfl rfl (bz (v':= .int .i64 (i.toNat:Int)) (congrArg _ (by omega)) (ai rfl rfl (ad ?_)))))))))));refine aj (bj ?_);refine dF (σ:=Nat) (fun s=>[(0,.pointer (some ⟨bs,0,none⟩)),(1,.int .i64 s)]) (fun s w=>w0=w∧i.toNat≤s∧(∀t,i.toNat≤t→t<s→bit ws t=false)∧s≤1099511627840) (fun s=>n+64-s) i.toNat (.cons rfl (.cons rfl .nil)) ?_ ?_
 ·exact⟨rfl,bh _,fun t h1 h2=>by omega,by omega⟩
 ·rintro p w1 ⟨rfl,hp,iI,qW⟩;refine aj (aj (ah (ae rfl rfl (ae rfl rfl (aQ rfl ⟨_,rfl⟩ rfl (aS cx rfl rfl I3 (by decide) rfl rfl (aE ar rfl rfl rfl (by assumption) rfl (cd rfl rfl rfl (ad ?_)))))))));refine bI rfl (fun c2=>?_) (fun c2=>?_)
  ·refine aV (bj (aj (aj (ah (ae rfl rfl (aQ rfl ⟨_,rfl⟩ rfl (aS cx rfl rfl oG (by decide) rfl rfl (aE bN rfl rfl rfl (by assumption) rfl (ae rfl rfl (Rg.rF rfl rfl rfl (by omega) (Rg.tY bN mB rfl rfl rfl (by omega) ?_)))))))))));refine aE gH rfl rfl rfl hW (v:= .int .u64 ((ws.getD (p/64) 0:Nat):Int)) (by rw[show(((p:Int)/64)).toNat=p/64 from by omega];exact fw (by omega)) (ae rfl rfl (Rg.rG rfl rfl rfl (by omega) (Rg.shr rfl rfl rfl (by omega) (bz (v':= .int .u64 ((ws.getD (p/64) 0/2^(p%64):Nat):Int)) (congrArg _ (by rw[show((p:Int)%64)=((p%64:Nat):Int)from by omega];exact KJ _ _ (by omega))) (ai rfl rfl (ad (aj (ah (ae rfl rfl (eW rfl rfl rfl (ad ?_)))))))))));refine bI rfl (fun c4=>?_) (fun c4=>?_)
   ·refine aj (ah (ae rfl rfl (ae rfl rfl ?_)));obtain⟨k,m,zY⟩:=Eh (ws.getD (p/64) 0/2^(p%64)) (Nat.pos_of_ne_zero fun h=>c4 (by rw[h];rfl));have vY:=yi (fv.get _) (show p%64<64 by omega) zY;have Yq:ws.getD (p/64) 0/2^(p%64)<2^64:=Nat.lt_of_le_of_lt (Nat.div_le_self _ _) (fv.get _);refine aP rfl rfl Yp (uz (k:=k) (m:=m) GR zY Yq) (fun r wc h=>?_);obtain⟨rfl,rfl⟩:=h;refine bB rfl rfl rfl (by omega) (ai rfl rfl (ad (aJ ?_)));have Wo:=fun t ht=>(wF (k:=k) (m:=m)).2 t ht
    have hbk:bit ws (p+k)=true:=by rw[sf vY,zY];exact wF.1
    have:=hb _ hbk
    exact aO rfl rfl ⟨⟨_,rfl,.inl ⟨p+k,by omega,by omega,hbk,fun t h1 h2=>by
     rcases cK t p with h|h
     ·exact iI t h1 h
     ·have h3:=sf (ws:=ws) (i:=p) (t:=t-p) (by omega);rw[show p+(t-p)=t from by omega]at h3;rw[h3,zY];exact Wo _ (by omega)⟩,by omega,by omega⟩,rfl⟩
   ·have Zl:ws.getD (p/64) 0/2^(p%64)=0:=by
     have:=dV.1 c4;exact Int.ofNat.inj this
    refine aV (ah (ae rfl rfl (ae rfl rfl (Rg.rG rfl rfl rfl (by omega) (gA rfl rfl rfl (by omega) (bB rfl rfl rfl (by omega) (ai rfl rfl (ad ?_))))))));refine⟨rfl,p+(64-p%64),(.cons rfl (.cons (by rw[show((p+(64-p%64):Nat):Int)=(p:Int)+(64-(p:Int)%64)from by omega];rfl) .nil)),?_,?_⟩
    ·refine⟨rfl,by omega,fun t h1 h2=>?_,by omega⟩;rcases cK t p with h|h
     ·exact iI t h1 h
     ·have h3:=sf (ws:=ws) (i:=p) (t:=t-p) (by omega);rw[show p+(t-p)=t from by omega]at h3;rw[h3,Zl];simp
    ·show n+64-(p+(64-p%64))<n+64-p;omega
  ·refine cN (aj (ah (ai rfl rfl (ad (aJ ?_)))))
   exact aO rfl rfl ⟨⟨_,rfl,.inr ⟨rfl,fun t h1=>by
    rcases cK t p with h|h
    ·exact iI t h1 h
    ·cases Dd:bit ws t with
     |false=>rfl
     |true=>have:=hb t Dd;omega⟩,by omega,by omega⟩,rfl⟩
theorem Dr {M:aA} {w0:World} {bs:Nat} (hM:Lt M w0):
  Spec Tryz.prog 103 #[.pointer (some ⟨bs,0,none⟩)] w0 (fun v' w'=>∃bl,v'= .func (.func 146) #[] #[.pointer (some ⟨bl,0,none⟩)]∧w'.heap[bl]? =some (.cells #[.pointer (some ⟨bs,0,none⟩)] 88 (0,0))∧w0.heap.size≤bl∧Step M w0 M w' aC):=by
 refine aX (args:=[_]) (fn:=Tryz.f103) Tryz.func103 rfl (n:=4) Tryz.ntmps103 (aj (ah ?_));refine oN M rfl rfl (fun bl w1 h1 G5 hS s1=>?_);change w1.heap[bl]? =some (.cells #[.pointer (some ⟨bs,0,none⟩)] _ _)at hS;refine ai rfl rfl (ad (aj (ah (ia (xs:=[]) (ys:=[.tmp 1]) rfl rfl rfl (ai rfl rfl (ad (aJ ?_)))))));exact aO rfl rfl ⟨bl,rfl,hS,h1,s1.back⟩
theorem Bq {w0:World} {n:Nat} {ws:List Nat} {bs bw bl yl:Nat} {J:Nat→aA→World→Prop} {M:aA} {Jx:World→Prop} (hb:∀j,bit ws j=true→j<n) (DF:∀p M w,J p M w→w.heap[bl]? =some (.cells #[.pointer (some ⟨bs,0,none⟩)] 88 (0,0))∧ek 161 165 n ws M w bs bw∧(∃e fr,w.heap[0]? =some (.cells (Ej.map fun(k:Nat)=>Value.int .u8 (k:Int)).toArray e fr))) (hy:∀(p j:Nat) (M:aA) (w:World),J p M w→p≤j→bit ws j=true→(∀t,p≤t→t<j→bit ws t=false)→qA Tryz.prog yl [.int .i64 j].toArray w (fun r w'=>∃c,r= .bool c∧(c=true→∃M',J (j+1) M' w')∧(c=false→Jx w'))) (h0:J 0 M w0):
  Spec Tryz.prog 146 #[.func (.yield yl) #[] #[],.pointer (some ⟨bl,0,none⟩)] w0 (fun _ w'=>(∃p M',J p M' w'∧∀t,p≤t→bit ws t=false)∨Jx w'):=by
 obtain⟨NI,K9,Yr⟩:=DF _ _ _ h0;refine aX (args:=[_,_]) (fn:=Tryz.f146) Tryz.func146 rfl (n:=17) Tryz.ntmps146 (aj (ah (aE kS rfl rfl rfl (by assumption) rfl ?_)));refine aP rfl rfl RC (tH K9 (i:=0) (by omega) hb Yr) (fun r wc h=>?_);obtain⟨⟨r,rfl,hr,NV,I2⟩,rfl⟩:=h;refine ai rfl rfl (ad (bj ?_));refine dF (σ:=Nat×Int) (fun s=>[(0,.func (.yield yl) #[] #[]),(1,.pointer (some ⟨bl,0,none⟩)),(3,.int .i64 s.2)]) (fun s w=>(∃M1,J s.1 M1 w)∧Ji ws s.1 s.2∧ -1≤s.2∧s.2≤1099511627776∧s.1≤n) (fun s=>n+1-s.1) (0,r) (.cons rfl (.cons rfl (.cons rfl .nil))) ?_ ?_
 ·exact⟨⟨M,h0⟩,hr,NV,I2,bH _⟩
 ·clear hr NV I2;rintro⟨p,r⟩ w1 ⟨⟨M1,hJ⟩,hr,NV,I2,Q4⟩;dsimp only at hJ hr NV I2 Q4 ⊢;refine aj (aj (ah (ae rfl rfl (dy rfl rfl rfl (ae rfl rfl ?_)))));refine aG (g:=8) rfl (fun fF=>?_) (fun fF=>?_)
  ·refine al rfl rfl (ae rfl rfl (al rfl rfl (ae rfl rfl (al rfl rfl ?_))))
   have hrj:∃j:Nat,r=j∧p≤j∧bit ws j=true∧∀t,p≤t→t<j→bit ws t=false:=by
    rcases hr with h|h
    ·exact h
    ·omega
   obtain⟨j,rfl,Ys,RD,iI⟩:=hrj;have hjn:=hb j RD;refine Rg.yield rfl (vs:=[.int .i64 j]) rfl rfl (hy p j M1 _ hJ Ys RD iI) (fun r4 w5 h5=>?_);obtain⟨c,rfl,hc5,Rq⟩:=h5;refine bz (v':= .bool (decide (c=true))) (by simp) (aR rfl rfl rfl (ad ?_));refine bI rfl (fun c1=>?_) (fun c1=>?_)
   ·obtain⟨M2,SA⟩:=hc5 c1;obtain⟨Dx,xG,Yt⟩:=DF _ _ _ SA;refine aV (aj (bj (aV (ah (aE kS rfl rfl rfl (by assumption) rfl (ae rfl rfl (bB rfl rfl rfl (by omega) ?_)))))));refine aP rfl rfl RC (tH xG (i:=(j:Int)+1) (by have:=xG.nn;omega) hb Yt) (fun r wc h=>?_);obtain⟨⟨r2,rfl,RE,MR,hr4⟩,rfl⟩:=h;refine ai rfl rfl (ad ?_);refine⟨rfl,(j+1,r2),(.cons rfl (.cons rfl (.cons rfl .nil))),?_,?_⟩
    ·refine⟨⟨M2,SA⟩,?_,MR,hr4,by simp only;omega⟩;rw[show((j:Int)+1).toNat=j+1 from by omega]at RE;exact RE
    ·simp only;omega
   ·refine cN ?_;change rE Tryz.prog Tryz.f146 (fun _ w'=>(∃p M',J p M' w'∧∀t,p≤t→bit ws t=false)∨Jx w') .normal _ [] _
    first
    |exact gI rfl (.inr (Rq (by simpa using c1)))
    |(have mK:∀t,p≤t→bit ws t=false:=by
       rcases hr with⟨j,h,_⟩|h
       ·omega
       ·exact h.2
      exact gI rfl (.inl ⟨p,M1,hJ,mK⟩))
  ·refine ao rfl rfl rfl rfl (ao rfl rfl rfl rfl (ao rfl rfl rfl rfl (ax rfl rfl rfl (ad (hY rfl (cN ?_))))));change rE Tryz.prog Tryz.f146 (fun _ w'=>(∃p M',J p M' w'∧∀t,p≤t→bit ws t=false)∨Jx w') .normal _ [] _
   first
   |exact gI rfl (.inr (Rq (by simpa using c1)))
   |(have mK:∀t,p≤t→bit ws t=false:=by
      rcases hr with⟨j,h,_⟩|h
      ·omega
      ·exact h.2
     exact gI rfl (.inl ⟨p,M1,hJ,mK⟩))
end Go.K
namespace Go.K
open Go.Proofs
namespace TKSet2
theorem oG:TI Tryz.prog 159 (.slice none 0 0) 1 24:=by unfold TI;kernel_rfl
theorem mB:TI Tryz.prog 165 (.int .u64 0) 1 8:=by unfold TI;kernel_rfl
theorem IT:Enters Tryz.prog 143:=enters Tryz.func143 rfl (by decide)
theorem Yu:Enters Tryz.prog 144:=enters Tryz.func144 rfl (by decide)
end TKSet2
open TKSet2
set_option maxRecDepth 10000
theorem vQ {ws vs:List Nat} {n:Nat} (hl:ws.length=(n+63)/64) (hv:vs.length=(n+63)/64) (hr:0<n%64) (h1:∀j,j<64*ws.length→bit vs j= !bit ws j) (j:Nat):bit (vs.set (vs.length-1) (vs.getD (vs.length-1) 0%2^(n%64))) j=(decide (j<n)&& !bit ws j):=by
 rw[wH _ (by omega)];by_cases hj:j/64=vs.length-1
 ·rw[if_pos hj,Nat.testBit_mod_two_pow];have h2:=h1 j (by omega);have h3:(vs.getD (vs.length-1) 0).testBit (j%64)=bit vs j:=by unfold bit;rw[hj]
  rw[h3,h2];congr 1;exact decide_eq_decide.2 (by omega)
 ·rw[if_neg hj];by_cases pQ:j<n
  ·rw[h1 j (by omega),decide_eq_true pQ,dv]
  ·rw[decide_eq_false pQ,fP,HA (by omega)]
theorem zJ {ws vs:List Nat} {n:Nat} (hl:ws.length=(n+63)/64) (hr:n%64=0) (h1:∀j,j<64*ws.length→bit vs j= !bit ws j) (h2:∀j,64*ws.length≤j→bit vs j=false) (j:Nat):bit vs j=(decide (j<n)&& !bit ws j):=by
 by_cases pQ:j<n
 ·rw[h1 j (by omega),decide_eq_true pQ,dv]
 ·rw[decide_eq_false pQ,fP,h2 j (by omega)]
theorem Dt {M:aA} {w0:World} {n:Nat} {ws:List Nat} {bs bw:Nat} (h:ek 161 165 n ws M w0 bs bw):
  Spec Tryz.prog 144 #[.pointer (some ⟨bs,0,none⟩)] w0 (fun v' w'=>∃os ow qD,v'= .pointer (some ⟨os,0,none⟩)∧w0.heap.size≤os∧w0.heap.size≤ow∧Step M w0 (ins (ins M ow) os) w' aC∧ek 161 165 n qD (ins (ins M ow) os) w' os ow∧∀j,bit qD j=(decide (j<n)&& !bit ws j)):=by
 have hS:=h.s;have hW:=h.w;have hlen:=h.len;have fv:=h.ok;have DR:=h.nn;refine aX (args:=[_]) (fn:=Tryz.f144) Tryz.func144 rfl (n:=56) Tryz.ntmps144 (aj (ah (ai rfl rfl (ad (aj (ah (ae rfl rfl (aQ rfl ⟨_,rfl⟩ rfl (aS cx rfl rfl I3 (by decide) rfl rfl (aE ar rfl rfl rfl (by assumption) rfl ?_))))))))));refine aP rfl rfl IT (ql (M:=M) DR) (fun r1 w1 h=>?_);obtain⟨os,ow,rfl,z1,z2,s1,MZ⟩:=h;obtain⟨M1,re⟩:∃M1,M1=ins (ins M ow) os:=⟨_,rfl⟩;rw[←re]at s1 MZ;have h1:=h.step s1 (fun h=>h) (fun h=>h);have hS1:=h1.s;have lbs:=ak hS;have lbw:=ak hW;refine ai rfl rfl (ad (aj (aj (ah (ae rfl rfl (aQ rfl ⟨_,rfl⟩ rfl (aS cx rfl rfl oG (by decide) rfl rfl (aE bN rfl rfl rfl (by assumption) rfl (Rg.pW bN rfl rfl (ae rfl rfl (ad ?_)))))))))));refine bj ?_;refine dF (σ:=Nat×List Nat) (fun s=>[(0,.pointer (some ⟨bs,0,none⟩)),(3,.pointer (some ⟨os,0,none⟩)),(15,.slice (some ⟨bw,0,none⟩) ws.length ws.length),(16,.int .i64 ws.length),(17,.int .i64 s.1)]) (fun s w=>s.1≤ws.length∧ek 161 165 n ws M1 w bs bw∧ek 161 165 n s.2 M1 w os ow∧(∀j,j<64*s.1→bit s.2 j= !bit ws j)∧(∀j,64*s.1≤j→bit s.2 j=false)∧Step M1 w1 M1 w (fun b=>b=ow)) (fun s=>ws.length-s.1) (0,List.replicate ((n+63)/64) 0) (.cons rfl (.cons rfl (.cons rfl (.cons rfl (.cons rfl .nil))))) ?_ ?_
 ·exact⟨bH _,h1,MZ,fun j hj=>by omega,fun j hj=>yh _ _,(an _ _).cb (fun _ h=>h.elim) (fun b hb=>by rw[hb];exact MZ.mw)⟩
 ·rintro⟨k,vs⟩ w2 ⟨hk,h2,rf,o0,xE,S2⟩;dsimp only at hk rf o0 xE ⊢;have hS2:=h2.s;have hOS:=rf.s;have jr:=rf.len;refine aj (ah (cd rfl rfl rfl (ad (aj ?_))));refine bI rfl (fun c3=>?_) (fun c3=>?_)
  ·refine aV (aj (bj (aj (ah (ae rfl rfl (Rg.tY bN mB rfl rfl rfl (by omega) (aE gH rfl rfl rfl h2.w (v:= .int .u64 ((ws.getD (k) 0:Nat):Int)) (by rw[show((k:Int)).toNat=k from by omega];exact fw (by omega)) (ai rfl rfl (ai rfl rfl (ad (ah ?_)))))))))));refine ae rfl rfl (aQ rfl ⟨_,rfl⟩ rfl (aS cx rfl rfl oG (by decide) rfl rfl (aE bN rfl rfl rfl (by assumption) rfl (ae rfl rfl (ae rfl rfl (Rg.Oy rfl rfl (fv.get _) (Rg.tY bN mB rfl rfl rfl (by omega) ?_)))))));refine bQ (M:=M1) (u:= .int .u64 ((vs.getD k 0:Nat):Int)) mB rfl rfl rf.w (by rw[az];exact fw (by omega)) rfl rf.mw (fun w5 J6 s5=>?_);rw[az,lM]at J6;refine ad (ah (bB rfl rfl rfl (by omega) (ae rfl rfl (ad ?_))));refine⟨rfl,(k+1,vs.set k (2^64-1-ws.getD k 0)),(.cons rfl (.cons rfl (.cons rfl (.cons rfl (.cons rfl .nil))))),?_,?_⟩
   ·refine⟨by simp only;omega,h2.step s5 (by omega) (by omega),rf.put s5 (by simp) J6 (rf.ok.set (by omega)),fun j hj=>?_,fun j hj=>?_,S2.trans s5 (fun _ _ h=>h)⟩
    ·simp only at hj ⊢;rw[wH _ (by omega)];by_cases IK:j/64=k
     ·rw[if_pos IK,Ek (fv.get _) (by omega)];unfold bit;rw[IK]
     ·rw[if_neg IK];exact o0 j (by omega)
    ·simp only at hj ⊢;rw[wH _ (by omega),if_neg (by omega)];exact xE j (by omega)
   ·simp only;omega
  ·refine cN (aj (aj (ah (ae rfl rfl (aQ rfl ⟨_,rfl⟩ rfl (aS cx rfl rfl I3 (by decide) rfl rfl (aE ar rfl rfl rfl (by assumption) rfl (Rg.rG rfl rfl rfl (by omega) (bz (v':= .int .i64 ((n%64:Nat):Int)) (congrArg _ (by omega)) (ai rfl rfl (ad ?_)))))))))));refine aj (ah (ae rfl rfl (nD rfl rfl rfl (ad ?_))));refine bI rfl (fun c8=>?_) (fun c8=>?_)
   ·have Nr:=Nat.two_pow_pos (n%64);have hp3:2^(n%64)<2^64:=Nat.pow_lt_pow_right (by decide) (by omega);apply T.BG (M:=M1) mixed [] [b8.eq _,b8.eq _,b8.eq _,b8.eq (.slice (some ⟨ow,0,none⟩) vs.length vs.length),b8.eq _,b8.eq _,b8.eq _,b8.eq (.slice (some ⟨ow,0,none⟩) vs.length vs.length),b8.eq (.int .i64 vs.length),b8.eq (.int .i64 ((vs.length-1:Nat):Int)),b8.eq (.pointer (some ⟨ow,((vs.length-1:Nat):Int).toNat,none⟩)),b8.eq (.int .u64 ((vs.getD (vs.length-1) 0:Nat):Int)),b8.eq _,b8.eq (.int .u64 ((2^(n%64):Nat):Int)),b8.eq (.int .u64 ((2^(n%64)-1:Nat):Int)),b8.eq (.int .u64 (((vs.getD (vs.length-1) 0%2^(n%64)):Nat):Int)),b8.eq (.pointer (some ⟨ow,((vs.length-1:Nat):Int).toNat,none⟩))] 17
    ·rfl
    ·rfl
    ·rfl
    ·rfl
    ·rfl
    ·exact fun p hp=>by cases hp
    ·exact qX.none
    ·refine aF ?_ ?_
     ·intro wD E sD;refine ae rfl rfl ?_;exact ad ⟨rfl,rfl,_,rfl,rfl,an _ _⟩
     refine aF ?_ ?_
     ·intro wD E sD;refine aw (aQ rfl ⟨_,rfl⟩ rfl ?_);exact ad ⟨rfl,rfl,_,rfl,rfl,an _ _⟩
     refine aF ?_ ?_
     ·intro wD E sD;refine aw (aS cx rfl rfl oG (by decide) rfl rfl ?_);exact ad ⟨rfl,rfl,_,rfl,rfl,an _ _⟩
     refine aF ?_ ?_
     ·intro wD E sD;refine aw (aE bN rfl rfl rfl (bV sD (by assumption)) rfl ?_);exact ad ⟨rfl,rfl,_,rfl,rfl,an _ _⟩
     refine aF ?_ ?_
     ·intro wD E sD;refine ae rfl rfl ?_;exact ad ⟨rfl,rfl,_,rfl,rfl,an _ _⟩
     refine aF ?_ ?_
     ·intro wD E sD;refine aw (aQ rfl ⟨_,rfl⟩ rfl ?_);exact ad ⟨rfl,rfl,_,rfl,rfl,an _ _⟩
     refine aF ?_ ?_
     ·intro wD E sD;refine aw (aS cx rfl rfl oG (by decide) rfl rfl ?_);exact ad ⟨rfl,rfl,_,rfl,rfl,an _ _⟩
     refine aF ?_ ?_
     ·intro wD E sD;refine aw (aE bN rfl rfl rfl (bV sD (by assumption)) rfl ?_);exact ad ⟨rfl,rfl,_,rfl,rfl,an _ _⟩
     refine aF ?_ ?_
     ·intro wD E sD;refine aw (Rg.pW bN rfl rfl ?_);exact ad ⟨rfl,rfl,_,rfl,rfl,an _ _⟩
     refine aF ?_ ?_
     ·intro wD E sD;refine aw (gA rfl rfl rfl (by omega) (bz (v':= .int .i64 ((vs.length-1:Nat):Int)) (congrArg _ (by omega)) ?_));exact ad ⟨rfl,rfl,_,rfl,rfl,an _ _⟩
     refine aF ?_ ?_
     ·intro wD E sD;refine aw (aw (Rg.tY bN mB rfl rfl rfl (by omega) ?_));exact ad ⟨rfl,rfl,_,rfl,rfl,an _ _⟩
     refine aF ?_ ?_
     ·intro wD E sD;refine aw (aE gH rfl rfl rfl (sD.aI rf.w) (v:= .int .u64 ((vs.getD (vs.length-1) 0:Nat):Int)) (by rw[az];exact fw (by omega)) ?_);exact ad ⟨rfl,rfl,_,rfl,rfl,an _ _⟩
     refine aF ?_ ?_
     ·intro wD E sD;refine ae rfl rfl ?_;exact ad ⟨rfl,rfl,_,rfl,rfl,an _ _⟩
     refine aF ?_ ?_
     ·intro wD E sD;refine aw (Rg.shl rfl rfl rfl (by omega) (bz (v':= .int .u64 ((2^(n%64):Nat):Int)) (congrArg _ (OA _ (by omega))) ?_));exact ad ⟨rfl,rfl,_,rfl,rfl,an _ _⟩
     refine aF ?_ ?_
     ·intro wD E sD;refine aw (Rg.Kh rfl rfl rfl (bz (v':= .int .u64 ((2^(n%64)-1:Nat):Int)) (congrArg _ (by rw[show((2^(n%64):Nat):Int)-1=((2^(n%64)-1:Nat):Int)from by omega,wG,kQ (by omega)])) ?_));exact ad ⟨rfl,rfl,_,rfl,rfl,an _ _⟩
     refine aF ?_ ?_
     ·intro wD E sD;refine aw (aw (Rg.and rfl rfl rfl (bz (v':= .int .u64 (((vs.getD (vs.length-1) 0%2^(n%64)):Nat):Int)) (congrArg _ (by rw[wC _ _ (rf.ok.get _) (by omega),Nat.and_two_pow_sub_one_eq_mod])) ?_)));exact ad ⟨rfl,rfl,_,rfl,rfl,an _ _⟩
     refine aF ?_ ?_
     ·intro wD E sD;refine aw (aw (aw (aw (aw (aw (aw (aw (aw (aw (aw (aw ?_)))))))))));refine aw (aw (aw (aw (aw (aw (Rg.tY bN mB rfl rfl rfl (by omega) ?_))))));exact ad ⟨rfl,rfl,_,rfl,rfl,an _ _⟩
     exact bD.nil
    ·intro NM Ce;refine aw (aw (aw (aw (aw (aw (aw (aw (aw (aw (aw (aw ?_)))))))))));refine aw (aw (aw (aw (aw ?_))));refine bQ (M:=M1) (u:= .int .u64 ((vs.getD (vs.length-1) 0:Nat):Int)) mB rfl rfl (Ce.aI rf.w) (by rw[az];exact fw (by omega)) rfl rf.mw (fun w9 Yv s9=>?_);rw[az,lM]at Yv;refine ad (aj (ah (ae rfl rfl (ai rfl rfl (ad (aJ ?_))))));have xZ:k=ws.length:=by omega
     first
     |exact aO rfl rfl ⟨os,ow,vs.set (vs.length-1) (vs.getD (vs.length-1) 0%2^(n%64)),rfl,z1,z2,by rw[←re];exact(s1.cu S2 (fun b hb=>by omega)).ay Ce |>.cu s9 (fun b hb=>by omega),by rw[←re];exact(rf.step Ce (fun h=>h) (fun h=>h)).put s9 (by simp) Yv (rf.ok.set (Nat.lt_of_le_of_lt (Nat.mod_le _ _) (rf.ok.get _))),fun j=>vQ hlen jr (by omega) (by rw[←xZ];exact o0) j⟩
     |exact aO rfl rfl ⟨os,ow,vs,rfl,z1,z2,by rw[←re];exact s1.cu S2 (fun b hb=>by omega),by rw[←re];exact rf,fun j=>zJ hlen (by omega) (by rw[←xZ];exact o0) (by rw[←xZ];exact xE) j⟩
   ·refine aV (aj (ah (ae rfl rfl (ai rfl rfl (ad (aJ ?_))))));have xZ:k=ws.length:=by omega
    first
    |exact aO rfl rfl ⟨os,ow,vs.set (vs.length-1) (vs.getD (vs.length-1) 0%2^(n%64)),rfl,z1,z2,by rw[←re];exact(s1.cu S2 (fun b hb=>by omega)).ay Ce |>.cu s9 (fun b hb=>by omega),by rw[←re];exact(rf.step Ce (fun h=>h) (fun h=>h)).put s9 (by simp) Yv (rf.ok.set (Nat.lt_of_le_of_lt (Nat.mod_le _ _) (rf.ok.get _))),fun j=>vQ hlen jr (by omega) (by rw[←xZ];exact o0) j⟩
    |exact aO rfl rfl ⟨os,ow,vs,rfl,z1,z2,by rw[←re];exact s1.cu S2 (fun b hb=>by omega),by rw[←re];exact rf,fun j=>zJ hlen (by omega) (by rw[←xZ];exact o0) (by rw[←xZ];exact xE) j⟩
theorem Du {M:aA} {w0:World} {n:Nat} (hn:n≤1099511627776):
  Spec Tryz.prog 101 #[.int .i64 n] w0 (fun v' w'=>∃os ow qD M',v'= .pointer (some ⟨os,0,none⟩)∧w0.heap.size≤os∧w0.heap.size≤ow∧Step M w0 M' w' aC∧ek 161 165 n qD M' w' os ow∧∀j,bit qD j=decide (j<n)):=by
 refine aX (args:=[_]) (fn:=Tryz.f101) Tryz.func101 rfl (n:=6) Tryz.ntmps101 (aj (ah (ai rfl rfl (ad (aj (ah (ae rfl rfl ?_)))))));refine aP rfl rfl IT (ql (M:=M) hn) (fun r1 w1 h=>?_);obtain⟨bs,bw,rfl,z1,z2,s1,h1⟩:=h;refine aP rfl rfl Yu (Dt h1) (fun r2 w2 h=>?_);obtain⟨os,ow,qD,rfl,z3,z4,s2,h2,hb⟩:=h;have y1:=s1.size;refine ai rfl rfl (ad (aJ ?_));exact aO rfl rfl ⟨os,ow,qD,_,rfl,by omega,by omega,s1.ay s2,h2,fun j=>by rw[hb j,yh];simp⟩
end Go.K
namespace Go.K
open Go.Proofs
namespace TKSet5
theorem Yw:Enters Tryz.prog 103:=enters Tryz.func103 rfl (by decide)
theorem Yx:Enters Tryz.prog 146:=enters Tryz.func146 rfl (by decide)
end TKSet5
open TKSet5
set_option maxRecDepth 10000
def low (ws:List Nat):Nat→List Int
 |0=>[]
 |p+1=>if bit ws p then low ws p++[(p:Int)]else low ws p
theorem xC (ws:List Nat):∀p,(low ws p).length≤p
 |0=>bh _
 |p+1=>by
  have:=xC ws p;unfold low;split
  ·simp;omega
  ·omega
theorem pB {ws:List Nat} {p:Nat}:∀{j:Nat},p≤j→(∀t,p≤t→t<j→bit ws t=false)→low ws j=low ws p
 |0,h,_=>by rw[show p=0 by omega]
 |j+1,h,iI=>by
  rcases jg h with e|h1
  ·rw[e]
  ·rw[low,iI j (by omega) (by omega)];simp only[Bool.false_eq_true,if_false];exact pB (by omega) (fun t h1 h2=>iI t h1 (by omega))
theorem IV:IS (RT.int .i64):=fun _ _ _ _ _ _ h=>h
structure DJ (n:Nat) (ws:List Nat) (bs bw bl:Nat) (M:aA) (w:World):Prop where
 f: ¬M bl∧¬M bs∧¬M bw∧¬M 0
 l:w.heap[bl]? =some (.cells #[.pointer (some ⟨bs,0,none⟩)] 88 (0,0))
 s:ek 161 165 n ws (fun _=>True) w bs bw
 t:∃e fr,w.heap[0]? =some (.cells (Ej.map fun(k:Nat)=>Value.int .u8 (k:Int)).toArray e fr)
theorem DJ.keeps {n:Nat} {ws:List Nat} {bs bw bl:Nat} {M M':aA} {w w':World} (h:DJ n ws bs bw bl M w) (l:Le M w M' w'):DJ n ws bs bw bl M' w':=by
 obtain⟨⟨f1,f2,f3,f4⟩,hl,hs,e,fr,ht⟩:=h;have a1:=l bl (ak hl) f1;have a2:=l bs (ak hs.s) f2;have a3:=l bw (ak hs.w) f3;have a4:=l 0 (ak ht) f4;exact⟨⟨a1.1,a2.1,a3.1,a4.1⟩,a1.2.trans hl,⟨trivial,trivial,hs.ne,a2.2.trans hs.s,a3.2.trans hs.w,hs.len,hs.ok,hs.nn⟩,e,fr,a4.2.trans ht⟩
theorem Br {M:aA} {w0:World} {n:Nat} {ws:List Nat} {bs bw:Nat} (hM:Lt M w0) (h:ek 161 165 n ws (fun _=>True) w0 bs bw) (hb:∀j,bit ws j=true→j<n) (hf: ¬M bs∧¬M bw∧¬M 0) (GR:∃e fr,w0.heap[0]? =some (.cells (Ej.map fun(k:Nat)=>Value.int .u8 (k:Int)).toArray e fr)):
  Spec Tryz.prog 52 #[.pointer (some ⟨bs,0,none⟩)] w0 (fun v w=>∃M',Own (RT.int .i64) 3 M' w w0.heap.size v (low ws n)∧Step M w0 M' w aC):=by
 have jH:=hM;refine mN (args:=[_]) (fn:=Tryz.f52) Tryz.func52 rfl (n:=13) Tryz.ntmps52 ?_;have S:Step M w0 M w0 aC:=(an _ _).cb (fun _ h=>h.elim) (fun _ h=>h.elim);refine aj (ah (ai rfl rfl (ad (aj (ah ?_)))));refine eX M nF rfl (fun mi CN O9 Pb jn nG=>?_);obtain⟨mW,mX⟩:∃M',M'=ins M mi:=⟨_,rfl⟩;rw[←mX]at nG;have gL:mW mi:=by rw[mX];exact .inl rfl
 change CN.heap[mi]? =some (.cells #[.slice none 0 0] _ _)at jn;replace hM:=nG.lt hM;have:=S.size;replace S:=S.ay nG;refine ad (aj (aj (ah (ae rfl rfl ?_))));refine aP rfl rfl Yw (Dr (bs:=bs) hM) (fun r2 w2 hc=>?_);obtain⟨bl,rfl,gl,zP,s2⟩:=hc;have fl: ¬mW bl:=fun h=>by have:=hM _ h;omega
 have hk:DJ n ws bs bw bl mW w2:=by
  obtain⟨e,fr,ht⟩:=GR;have q:=S.ay s2;exact⟨⟨fl,fun hn=>hf.1 ((q.mem _ (ak h.s)).1 hn),fun hn=>hf.2.1 ((q.mem _ (ak h.w)).1 hn),fun hn=>hf.2.2 ((q.mem _ (ak ht)).1 hn)⟩,gl,⟨trivial,trivial,h.ne,q.aI h.s,q.aI h.w,h.len,h.ok,h.nn⟩,e,fr,q.aI ht⟩
 have:=ak jn;replace gL:=(s2.mem _ this).2 gL;replace jn:=s2.aI jn;replace hM:=s2.lt hM;have:=S.size;replace S:=S.ay s2;refine ad (bj ?_);refine T.range (gf:=146) (lb:=[.pointer (some ⟨bl,0,none⟩)].toArray) rfl Yx (fun rec mM=>?_);obtain⟨D,hD⟩:∃D,D=w2.heap.size:=⟨_,rfl⟩;obtain⟨Mr,h0⟩:=Rh (A:=RT.int .i64) (e:=3) (T:=32) (C:=216) (K:=DJ n ws bs bw bl) (st:=rec .ready none) DJ.keeps hM S jn gL hk (by omega);rw[←hD]at mM h0 ⊢;refine Spec.mono (Bq (M:=fun _=>True) (J:=fun p Ma w=>Ma=(fun _=>True)∧∃M' vo,zA (RT.int .i64) 3 32 216 (DJ n ws bs bw bl) M w0 mi D (rec .ready none) vo (low ws p) M' w) (Jx:=fun _=>False) hb (fun p Ma w ⟨e,M',vo,h⟩=>by subst e;exact⟨h.k.l,h.k.s,h.k.t⟩) (fun p j Ma wr hJ Ys RD iI=>?_) ⟨rfl,Mr,_,h0⟩) (fun _ w3 h3=>?_)
 ·obtain⟨_,M',vo,h⟩:=hJ;have hjn:=hb j RD;have DR:=h.k.s.nn;have Hm:=xC ws p;refine kZ (ps:=[7]) (vs:=[.int .i64 (j:Int)]) mM h.r rfl (by decide) (ah (ai rfl rfl (ad ?_)));refine⟨rfl,h.r,?_⟩;have h4:=h.mu DJ.keeps (st':=rec .busy none);have s4:Step M' wr M' (wr.putObj (D+1) (.loop (rec .busy none))) (fun k=>k=D+1):=dG h.mr;generalize wr.putObj (D+1) _=w4 at h4 s4 ⊢;refine bj (ah (aE au rfl rfl rfl h4.o rfl (bz (v':=vo) rfl (ae rfl rfl ?_))));refine eQ (A:=RT.int .i64) (hn:=by decide) (M:=M') au I3 (by decide) rfl rfl h4.lt (BA.2 ⟨rfl,by show-9223372036854775808≤(j:Int)∧(j:Int)≤9223372036854775807;omega⟩) (.inr ⟨rfl,rfl⟩) (fun u5 w5 Am s5=>?_);have h6:=h4.bg DJ.keeps s5;refine cO (M:=M') (base:=w0.heap.size) au I3 rfl rfl rfl rfl h6.own Am (aq _ _) (by simp;omega) (by simp;omega) h6.S.size (fun v6 M6 w6 qI s6=>?_);obtain⟨⟨X3,X4⟩,G3⟩:=h6.grow DJ.keeps (by decide) s6 qI;refine bQ (M:=M6) nF rfl rfl X3 rfl (by obtain⟨_,_,he,_⟩:=qI.isSlice;rw[he];rfl) X4 (fun w7 g7 s7=>?_);refine ad ?_;have h8:=(G3 s7 g7).mu DJ.keeps (st':=rec .ready none);exact⟨(G3 s7 g7).r,true,rfl,fun _=>⟨_,rfl,M6,v6,by rw[low,if_pos RD,pB Ys iI];exact h8⟩,fun h=>by cases h⟩
 ·obtain⟨p,_,⟨_,M',vo,h⟩,mK⟩:=h3.resolve_right id;left;refine⟨h.r,?_⟩;have h5:=h.mu DJ.keeps (st':=rec .exhausted none);generalize w3.putObj (D+1) _=wE at h5 ⊢;refine aj (ah (aE au rfl rfl rfl h5.o rfl (bz (v':=vo) rfl (ai rfl rfl (ad (aJ ?_))))));have sE:Step M' wE M' (wE.putObj D (.deferred none)) (fun k=>k=D):=dG h5.md;have hz:=h5.z;have hS:=h5.S.cu sE (fun k (hk:k=D)=>by omega)
  have ho:=h5.own.step sE (fun b hb (hn:b=D)=>by
   obtain⟨cs,hc⟩:=h5.own.isCells hb;rw[hn,h5.d]at hc;cases hc)
  have e:low ws n=low ws p:=by
   rcases Nat.le_total p n with h1|h1
   ·exact pB h1 (fun t h2 _=>mK t h2)
   ·exact(pB h1 (fun t h2 _=>by
     cases Dd:bit ws t with
     |false=>rfl
     |true=>have:=hb t Dd;omega)).symm
  exact Aa rfl rfl h5.d ⟨M',by rw[e];exact ho,hS⟩
theorem tI {M:aA} {w0:World} {n:Nat} {ws:List Nat} {bs bw:Nat} (hM:Lt M w0) (h:ek 161 165 n ws M w0 bs bw) (hb:∀j,bit ws j=true→j<n) (h0: ¬M 0) (GR:∃e fr,w0.heap[0]? =some (.cells (Ej.map fun(k:Nat)=>Value.int .u8 (k:Int)).toArray e fr)):Spec Tryz.prog 52 #[.pointer (some ⟨bs,0,none⟩)] w0 (fun v w=>((RT.int .i64).sl).V M w (low ws n) v∧Step M w0 M w aC):=
 (Br (M:=fun b=>M b∧b≠bs∧b≠bw) (fun b hb=>hM b hb.1) ⟨trivial,trivial,h.ne,h.s,h.w,h.len,h.ok,h.nn⟩ hb ⟨fun h=>h.2.1 rfl,fun h=>h.2.2 rfl,fun h=>h0 h.1⟩ GR).mono fun v w ⟨M',ho,s⟩=>ho.MX IV s (bh _) hM (by have:=xC ws n;have:=h.nn;omega)
end Go.K
namespace Go.K
section
variable {P:Program} {r:Option Nat} {n:Nat} {L:Sl} {ds:List Deferred} {w:World} {K:Kt}
theorem T.RF {σ:Type} {c:Code} (Lf:σ→Sl) (df:σ→List Deferred) (I:σ→World→Prop) (m:σ→Nat) (s0:σ) (hL:Sub (Lf s0) L) (hd:df s0=ds) (h0:I s0 w)
  (round:∀s w,I s w→T P r n c (Lf s) (df s) w (rB (fun L' kC w'=>∃s',kC=df s'∧Sub (Lf s') L'∧I s' w'∧m s'<m s) K)):T P r n (.loop c) L ds w K:=by
 classical
 refine⟨fun a ha=>?_⟩;subst hd
 let J:σ→Act→World→Prop:=fun s a w=>fM n a (Lf s) (df s)∧I s w
 let μ:Act→World→Nat:=fun a w=>if h:∃s,J s a w then m (Classical.choose (least m (J · a w) h))else 0
 refine wpIn_loop (fun a w=>∃s,J s a w) μ ⟨s0,ha.sub hL,h0⟩ ?_;rintro a w hJ;have hc:=Classical.choose_spec (least m (J · a w) hJ);have hμ:μ a w=m (Classical.choose (least m (J · a w) hJ)):=by simp only[μ];rw[dif_pos hJ]
 rw[hμ];generalize Classical.choose (least m (J · a w) hJ)=s at hc;obtain⟨⟨hs,hi⟩,_⟩:=hc;refine wpIn_mono ((round s w hi).run a hs) ?_;rintro e a' w' ⟨L',kC,lz,hK⟩
 cases e with
 |normal=>
  obtain⟨s',rfl,DK,fB,dB⟩:=hK;have Hf:∃s,J s a' w':=⟨s',lz.sub DK,fB⟩;refine⟨Hf,?_⟩;have h2:=(Classical.choose_spec (least m (J · a' w') Hf)).2 s' ⟨lz.sub DK,fB⟩;simp only[μ];rw[dif_pos Hf];omega
 |exit id=>exact⟨L',kC,lz,hK⟩
 |goto id=>exact⟨L',kC,lz,hK⟩
 |ret=>exact⟨L',kC,lz,hK⟩
 |panic c=>exact⟨L',kC,lz,hK⟩
 |outgrown=>exact⟨L',kC,lz,hK⟩
structure fq (M:aA) (w:World) (base:Nat) (Ds:List Nat):Prop where
 nd:Ds.Nodup
 at_:∀D∈Ds,w.heap[D]? =some (.deferred (some []))∧M D∧base≤D
theorem fq.nil (M:aA) (w:World) (base:Nat):fq M w base []:=⟨List.Pairwise.nil,fun D h=>absurd h (List.not_mem_nil)⟩
theorem fq.cons {M:aA} {base D:Nat} {Ds:List Nat} (h:fq M w base Ds) (h1:D∉Ds) (h2:w.heap[D]? =some (.deferred (some []))) (h3:M D) (h4:base≤D):fq M w base (D::Ds):=
 ⟨rA.2 ⟨h1,h.nd⟩,fun E hE=>by
  rcases dw.1 hE with rfl|hE
  ·exact⟨h2,h3,h4⟩
  ·exact h.at_ E hE⟩
theorem fq.step {M M' N:aA} {w':World} {base:Nat} {Ds:List Nat} (h:fq M w base Ds) (s:Step M w M' w' N) (hN:∀b,N b→w.heap[b]? ≠some (.deferred (some []))):fq M' w' base Ds:=
 ⟨h.nd,fun D hD=>by
  obtain⟨h1,h2,h3⟩:=h.at_ D hD;exact⟨s.bF h1 (fun hn=>hN D hn h1),(s.mem _ (ak h1)).2 h2,h3⟩⟩
theorem fq.run {M:aA} {base:Nat}:∀{Ds:List Nat} {w:World},fq M w base Ds→∃w',Marks P (Ds.map mark) w w'∧Step M w M w' (fun b=>M b∧base≤b∧w.heap[b]? =some (.deferred (some [])))
 |[],w,_=>⟨w,rfl,(an _ _).cb (fun _ h=>h.elim) (fun _ h=>h.1)⟩
 |D::Ds,w,h=>by
  obtain⟨h1,h2,h3⟩:=h.at_ D (by simp);have mD:=rA.1 h.nd;have sE:Step M w M (w.putObj D (.deferred none)) (fun k=>k=D):=⟨fun h k hk=>by simpa[World.putObj]using h k hk,rfl,rfl,rfl,by simp[World.putObj],fun _ _=>Iff.rfl,fun k _ hn=>World.putObj_heap_other (fun e=>hn e),fun k hk=>by subst hk;exact h2⟩
  have h':fq M (w.putObj D (.deferred none)) base Ds:=⟨mD.2,fun E hE=>by
   obtain⟨q1,q2,q3⟩:=h.at_ E (by simp[hE]);exact⟨sE.bF q1 (fun(e:E=D)=>mD.1 (by rw[←e];exact hE)),q2,q3⟩⟩
  obtain⟨w',hm,s⟩:=fq.run h';refine⟨w',⟨D,_,rfl,run_takeDeferred h1,hm⟩,(sE.cb (fun b hb=>by subst hb;exact⟨h2,h3,h1⟩) (fun b hb=>hb.1)).trans s (fun b hb ⟨q1,q2,q3⟩=>?_)⟩;by_cases e:b=D
  ·subst e;exact⟨h2,h3,h1⟩
  ·exact⟨q1,q2,by rw[←sE.same b hb e];exact q3⟩
theorem Na {fn:Func} {Q:Value→World→Prop} {M:aA} {base t:Nat} {v:Value} {Ds:List Nat} (hr:fn.results= #[.tmp t]) (hv:lk L t=some v) (hD:fq M w base Ds) (h:∀w',Step M w M w' (fun b=>M b∧base≤b∧w.heap[b]? =some (.deferred (some [])))→Q v w'):
  ya P fn Q .ret L (Ds.map mark) w:=by
 obtain⟨w',hm,s⟩:=hD.run (P:=P);exact⟨w',hm,fun a ha=>⟨v,by simp[results,hr,ha t v hv],h w' s⟩⟩
end
end Go.K
namespace Go.K
open Go.Proofs
set_option maxRecDepth 10000
structure GX (X K:aA→World→Prop) (M:aA) (w0:World) (Ds:List Nat) (D:Nat) (st:Loop) (M':aA) (w:World):Prop where
 lt:Lt M' w
 S:Step M w0 M' w aC
 r:w.heap[D+1]? =some (.loop st)
 mr:M' (D+1)
 d:w.heap[D]? =some (.deferred (some []))
 md:M' D
 x:X M' w
 k:K M' w
 ms:fq M' w w0.heap.size Ds
 z:w0.heap.size≤D
 dn:D∉Ds
section
variable {X X' K:aA→World→Prop} {M M1 M2 N:aA} {w0 w w':World} {Ds:List Nat} {D:Nat} {st:Loop} {C:TypeId}
def Ck (C:TypeId) (X:aA→World→Prop):Prop:=∀{M w M' w' N},X M w→Step M w M' w' N→(∀b,N b→∀cs t fr,w.heap[b]? =some (.cells cs t fr)→t=C)→X M' w'
theorem GX.RG (hK:∀{M w M' w'},K M w→Le M w M' w'→K M' w') (h:GX X K M w0 Ds D st M1 w) (s:Step M1 w M2 w' N) (hb:∀b,N b→w0.heap.size≤b) (hc:∀b,N b→b<w.heap.size→∃cs t fr,w.heap[b]? =some (.cells cs t fr)) (x:X' M2 w'):GX X' K M w0 Ds D st M2 w':=by
 have n1: ¬N (D+1):=fun hn=>by obtain⟨cs,t,fr,hq⟩:=hc _ hn (ak h.r);rw[h.r]at hq;cases hq
 have n2: ¬N D:=fun hn=>by obtain⟨cs,t,fr,hq⟩:=hc _ hn (ak h.d);rw[h.d]at hq;cases hq
 exact⟨s.lt h.lt,h.S.cu s hb,s.bF h.r n1,(s.mem _ (ak h.r)).2 h.mr,s.bF h.d n2,(s.mem _ (ak h.d)).2 h.md,x,hK h.k s.le,h.ms.step s (fun b hn hq=>by obtain⟨cs,t,fr,hq'⟩:=hc b hn (ak hq);rw[hq]at hq';cases hq'),h.z,h.dn⟩
theorem GX.GI (hK:∀{M w M' w'},K M w→Le M w M' w'→K M' w') (hX:Ck C X) (h:GX X K M w0 Ds D st M1 w) (s:Step M1 w M2 w' N) (hN:∀b,N b→w0.heap.size≤b∧(b<w.heap.size→∃cs,w.heap[b]? =some (.cells cs C (0,0)))):GX X K M w0 Ds D st M2 w':=
 h.RG hK s (fun b hb=>(hN b hb).1) (fun b hb hl=>by obtain⟨cs,hc⟩:=(hN b hb).2 hl;exact⟨_,_,_,hc⟩) (hX h.x s (fun b hb cs t fr hc=>by
  obtain⟨G4,xO⟩:=(hN b hb).2 (ak hc);rw[hc]at xO;injection xO with xO;injection xO))
theorem GX.mu (hK:∀{M w M' w'},K M w→Le M w M' w'→K M' w') (hX:Ck C X) {st':Loop} (h:GX X K M w0 Ds D st M1 w):GX X K M w0 Ds D st' M1 (w.putObj (D+1) (.loop st')):=by
 have s:Step M1 w M1 (w.putObj (D+1) (.loop st')) (fun k=>k=D+1):=dG h.mr;have z:=h.z;refine⟨s.lt h.lt,h.S.cu s (fun k (hk:k=D+1)=>by omega),World.putObj_heap_same (ak h.r),h.mr,s.bF h.d (fun(hn:D=D+1)=>by omega),h.md,hX h.x s (fun b (hb:b=D+1) cs t fr hc=>?_),hK h.k s.le,h.ms.step s (fun b (hb:b=D+1) hc=>?_),h.z,h.dn⟩
 ·rw[hb,h.r]at hc;cases hc
 ·rw[hb,h.r]at hc;cases hc
end
theorem Yy {X K:aA→World→Prop} {C:TypeId} {M M1:aA} {w0 w:World} {Ds:List Nat} {st:Loop} (hK:∀{M w M' w'},K M w→Le M w M' w'→K M' w') (hX:Ck C X) (hM:Lt M1 w) (S:Step M w0 M1 w aC) (hx:X M1 w) (hk:K M1 w) (hd:fq M1 w w0.heap.size Ds):
  ∃M',GX X K M w0 Ds w.heap.size st M' ((w.alloc (.deferred (some []))).alloc (.loop st)):=by
 have sA:Step M1 w (ins M1 w.heap.size) (w.alloc (.deferred (some []))) aC:=(cU M1 w _).own (bh _) (by simp);have sB:Step (ins M1 w.heap.size) (w.alloc (.deferred (some []))) (ins (ins M1 w.heap.size) (w.heap.size+1)) ((w.alloc (.deferred (some []))).alloc (.loop st)) aC:=(cU _ _ _).own (by simp) (by simp);have hD:(w.alloc (.deferred (some []))).heap[w.heap.size]? =some (.deferred (some [])):=cq w _;have hR:((w.alloc (.deferred (some []))).alloc (.loop st)).heap[w.heap.size+1]? =some (.loop st):=by have:=cq (w.alloc (.deferred (some []))) (.loop st);rwa [World.size_alloc]at this
 exact⟨_,sB.lt (sA.lt hM),(S.ay sA).ay sB,hR,.inl rfl,sB.aI hD,.inr (.inl rfl),hX (hX hx sA (fun b h=>h.elim)) sB (fun b h=>h.elim),hK (hK hk sA.le) sB.le,(hd.step sA (fun b h=>h.elim)).step sB (fun b h=>h.elim),S.size,fun hn=>by have:=ak (hd.at_ _ hn).1;omega⟩
def kN (n b7 os ow:Nat) (P:Nat→Bool) (M:aA) (w:World):Prop:=w.heap[b7]? =some (.cells #[.pointer (some ⟨os,0,none⟩)] 88 (0,0))∧M b7∧∃ws,ek 161 165 n ws M w os ow∧∀j,bit ws j=P j
theorem kN.kept {n b7 os ow:Nat} {P:Nat→Bool}:Ck 216 (kN n b7 os ow P):=fun⟨g,m,ws,hs,hp⟩ s hN=>by
 refine⟨s.bF g (fun hn=>absurd (hN _ hn _ _ _ g) (by decide)),(s.mem _ (ak g)).2 m,ws,hs.step s (fun hn=>absurd (hN _ hn _ _ _ hs.s) (by decide)) (fun hn=>absurd (hN _ hn _ _ _ hs.w) (by decide)),hp⟩
theorem kN.eq {n b7 os ow:Nat} {P Q:Nat→Bool} {M:aA} {w:World} (h:kN n b7 os ow P M w) (e:∀j,P j=Q j):kN n b7 os ow Q M w:=⟨h.1,h.2.1,h.2.2.choose,h.2.2.choose_spec.1,fun j=>(h.2.2.choose_spec.2 j).trans (e j)⟩
theorem kN.cut {n b7 os ow:Nat} {P:Nat→Bool} {M:aA} {w w':World} {qD:List Nat} {i:Int} (h:kN n b7 os ow P M w) (hs:ek 161 165 n qD M w' os ow) (s:Step M w M w' (fun b=>b=ow)) (how:∃ws,w.heap[ow]? =some (.cells (lL ws) 165 (0,0))) (hb:∀j:Nat,bit qD j=(P j&&decide ((j:Int)≠i))):kN n b7 os ow (fun j=>P j&&decide ((j:Int)≠i)) M w':=by
 obtain⟨g,m,_⟩:=h;obtain⟨ws,hw⟩:=how;exact⟨s.bF g (fun(e:b7=ow)=>by rw[e,hw]at g;injection g with g;injection g with _ g;exact absurd g (by decide)),m,qD,hs,hb⟩
end Go.K
namespace Go.K
open Go.Proofs
namespace TKLiveB
theorem xN:TI Tryz.prog 51 (.agg #[(.string ⟨#[]⟩),(.string ⟨#[]⟩),(.int .i64 0)]) 3 40:=by unfold TI;kernel_rfl
theorem I88:TI Tryz.prog 88 (.pointer none) 1 8:=by unfold TI;kernel_rfl
theorem Yb:Enters Tryz.prog 67:=enters Tryz.func67 rfl (by decide)
theorem Sz:Enters Tryz.prog 70:=enters Tryz.func70 rfl (by decide)
theorem X0:Enters Tryz.prog 72:=enters Tryz.func72 rfl (by decide)
theorem Yz:Enters Tryz.prog 101:=enters Tryz.func101 rfl (by decide)
theorem RH:Enters Tryz.prog 102:=enters Tryz.func102 rfl (by decide)
theorem MP:Enters Tryz.prog 122:=enters Tryz.func122 rfl (by decide)
end TKLiveB
open TKLiveB
set_option maxRecDepth 10000
abbrev qm (s:Se) (ls:List (List Po)) (e:Er):List Int:=me (lu s.2.2.1 ls (dd e.1)) s.2.1 e.2
def oH (n:Nat) (s:Se) (ls:List (List Po)) (upto:Int) (es:List Er) (j:Nat):Bool:=decide (j<n)&&decide (vI s.2.1 j<upto)&& !(es.any fun e=>decide (e.2<upto)&&decide ((j:Int)∈qm s ls e))
theorem vR {n:Nat} {s:Se} {ls:List (List Po)} {upto:Int} {es:List Er} {e:Er} (j:Nat):oH n s ls upto (es++[e]) j=(oH n s ls upto es j&& !(decide (e.2<upto)&&decide ((j:Int)∈qm s ls e))):=by
 unfold oH;rw[List.any_append];simp only[List.any_cons,List.any_nil,Bool.or_false,Bool.not_or,Bool.and_assoc]
theorem xD {n:Nat} {s:Se} {ls:List (List Po)} {upto:Int} {es:List Er} {j:Nat} (h:oH n s ls upto es j=true):j<n:=by
 unfold oH at h;simp only[bC,decide_eq_true_eq]at h;exact h.1.1
def rh (n:Nat) (s:Se) (upto:Int) (i j:Nat):Bool:=decide (j<n)&&(decide (i≤j)||decide (vI s.2.1 j<upto))
theorem IW {n:Nat} {s:Se} {upto:Int} {i:Nat} (h:upto≤vI s.2.1 (i:Int)) (j:Nat):(rh n s upto i j&&decide ((j:Int)≠(i:Int)))=rh n s upto (i+1) j:=by
 unfold rh;by_cases e:j=i
 ·subst e;rw[decide_eq_false (show¬(j:Int)≠(j:Int)from fun h=>h rfl),decide_eq_false (show¬j+1≤j by omega),decide_eq_false (show¬vI s.2.1 (j:Int)<upto by omega)];simp
 ·rw[decide_eq_true (show(j:Int)≠(i:Int) by omega),ig];congr 2;exact decide_eq_decide.2 (by omega)
theorem GY {n:Nat} {s:Se} {upto:Int} {i:Nat} (h: ¬upto≤vI s.2.1 (i:Int)) (j:Nat):rh n s upto i j=rh n s upto (i+1) j:=by
 unfold rh;by_cases e:j=i
 ·subst e;rw[decide_eq_true (show vI s.2.1 (j:Int)<upto by omega)];simp
 ·congr 2;exact decide_eq_decide.2 (by omega)
theorem IX {n:Nat} {s:Se} {ls:List (List Po)} {upto:Int} (j:Nat):rh n s upto n j=oH n s ls upto [] j:=by
 unfold rh oH;by_cases h:j<n
 ·rw[decide_eq_false (show¬n≤j by omega)];simp
 ·rw[decide_eq_false h];simp
abbrev Nb (bs:Nat) (v0:Value) (s:Se) (u:Value) (e:Er):aA→World→Prop:=fun M w=>w.heap[bs]? =some (.cells #[v0] 25 (0,0))∧¬M bs∧ch RT.se M w v0 s∧ch RT.er M w u e
abbrev zK (bs:Nat) (v0:Value) (s:Se) (u:Value) (e:Er) (es:List Er) (ve:Value):aA→World→Prop:=fun M w=>Nb bs v0 s u e M w∧(RT.er.sl).V M w es ve
theorem gT {bs:Nat} {v0 u ve:Value} {s:Se} {e:Er} {es:List Er} {M M':aA} {w w':World} (h:zK bs v0 s u e es ve M w) (l:Le M w M' w'):zK bs v0 s u e es ve M' w':=⟨nr h.1 l,h.2.le l⟩
def uA (n:Nat) (s:Se) (ls:List (List Po)) (upto:Int) (es:List Er) (e:Er) (i j:Nat):Bool:=oH n s ls upto es j&& !decide ((j:Int)∈(qm s ls e).take i)
theorem IY {n:Nat} {s:Se} {ls:List (List Po)} {upto:Int} {es:List Er} {e:Er} {i:Nat} {x:Int} (h:(qm s ls e)[i]? =some x) (j:Nat):(uA n s ls upto es e i j&&decide ((j:Int)≠x))=uA n s ls upto es e (i+1) j:=by
 unfold uA;rw[cg,h,cZ,Bool.and_assoc];congr 1;by_cases h1:(j:Int)∈(qm s ls e).take i<;>by_cases h2:(j:Int)=x<;>simp[h1,h2]
theorem IZ {n:Nat} {s:Se} {ls:List (List Po)} {upto:Int} {es:List Er} {e:Er} (he:e.2<upto) (j:Nat):uA n s ls upto es e (qm s ls e).length j=oH n s ls upto (es++[e]) j:=by
 unfold uA;rw[vR,bp (bh _),decide_eq_true he,dv]
theorem Nc {n:Nat} {s:Se} {ls:List (List Po)} {upto:Int} {es:List Er} {e:Er} {i j:Nat} (h:uA n s ls upto es e i j=true):j<n:=by
 unfold uA at h;rw[bC]at h;exact xD h.1
theorem qn {M:aA} {s:Se} {ls:List (List Po)} {es:List Er} {upto:Int} {v0 ve:Value} (w0:World) (hM:Lt M w0) (hs:ch RT.se M w0 v0 s) (xv:xi s.2.2.1) (DD:s.2.2.2=ls.map gJ) (IN:s.2.2.1.length=ls.length) (hn:s.1.length≤1000000) (he:(RT.er.sl).V M w0 es ve) (uE:es.length≤1000000) (xM:∀e∈es,IP (lu s.2.2.1 ls (dd e.1))):
  Spec Tryz.prog 48 #[v0,ve,.int .i64 upto] w0 (fun v w=>∃os ow ws M',v= .pointer (some ⟨os,0,none⟩)∧w0.heap.size≤os∧w0.heap.size≤ow∧Step M w0 M' w aC∧ek 161 165 s.1.length ws M' w os ow∧∀j,bit ws j=oH s.1.length s ls upto es j):=by
 have jH:=hM;refine mN (args:=[_,_,_]) (fn:=Tryz.f48) Tryz.func48 rfl (n:=48) Tryz.ntmps48 ?_;have S:Step M w0 M w0 aC:=(an _ _).cb (fun _ h=>h.elim) (fun _ h=>h.elim);refine aj (ah (ai rfl rfl (ad (aj (ah (ae rfl rfl ?_))))));refine aP rfl rfl Yb (vJ _ hs) (fun r wc hc=>?_);obtain⟨rfl,hw⟩:=hc;obtain rfl:w0=wc:=hw.symm;refine aP rfl rfl Yz (Du (M:=M) (n:=s.1.length) (by omega)) (fun r2 w2 hc=>?_);obtain⟨os,ow,ws,M2,rfl,z1,z2,s2,oI,zL⟩:=hc;replace hs:=hs.le (by decide) s2.le;replace he:=he.le s2.le;replace hM:=s2.lt hM;have:=S.size;replace S:=S.ay s2;refine eX M2 I88 rfl (fun jB wV Px Py ga s1_3=>?_);obtain⟨jc,nc⟩:∃M',M'=ins M2 jB:=⟨_,rfl⟩;rw[←nc]at s1_3;have fg:jc jB:=by rw[nc];exact .inl rfl
 change wV.heap[jB]? =some (.cells #[.pointer none] _ _)at ga;replace hs:=hs.le (by decide) s1_3.le;replace he:=he.le s1_3.le;replace hM:=s1_3.lt hM;have:=S.size;replace S:=S.ay s1_3;refine bQ (M:=jc) I88 rfl rfl ga rfl (rfl) fg (fun HN A8 gK=>?_)
 try simp only[List.setIfInBounds_toArray,List.set_cons_zero,List.set_cons_succ]at A8
 have:=ak ga;replace fg:=(gK.mem _ this).2 fg;replace hs:=hs.le (by decide) gK.le;replace he:=he.le gK.le;replace hM:=gK.lt hM;have:=S.size;replace S:=S.trans gK (fun k hk h=>by have h:_=_:=h;subst h;first|(exfalso;omega)|(show _≤_;omega)|exact⟨by first|omega|assumption,(S.mem _ hk).1 ((gK.mem _ (ak ga)).1 fg)⟩|exact .inl rfl|exact .inr rfl|exact .inr (.inl rfl)|exact .inr (.inr rfl)|exact rfl);have qH:=A8;clear ga;have ga:=qH;clear qH;refine ad (aj (aj (ah (ae rfl rfl ?_))));refine aP rfl rfl Yb (vJ _ hs) (fun r wc hc=>?_);obtain⟨rfl,rfl⟩:=hc;refine ae rfl rfl (ad (bj ?_));refine dF (σ:=Nat) (fun i=>[(0,v0),(1,ve),(2,.int .i64 upto),(7,.pointer (some ⟨jB,0,none⟩)),(16,.int .i64 (s.1.length:Int)),(17,.int .i64 (i:Int))]) (fun i w=>∃M1,Lt M1 w∧Step M w0 M1 w aC∧kN s.1.length jB os ow (rh s.1.length s upto i) M1 w∧ch RT.se M1 w v0 s∧(RT.er.sl).V M1 w es ve∧i≤s.1.length) (fun i=>s.1.length-i) 0 (.cons rfl (.cons rfl (.cons rfl (.cons rfl (.cons rfl (.cons rfl .nil)))))) ?_ ?_
 ·exact⟨_,hM,S,⟨ga,fg,ws,(oI.step s1_3 (fun h=>h) (fun h=>h)).step gK (fun(h:os=jB)=>by have:=ak oI.s;omega) (fun(h:ow=jB)=>by have:=ak oI.w;omega),fun j=>by rw[zL j];unfold rh;simp⟩,hs,he,bH _⟩
 ·clear S hs he hM ga fg;rintro i w ⟨M1,hM,S,hx,hs,he,hi⟩;refine aj (ah (cd rfl rfl rfl (ad (aj ?_))));refine bI rfl (fun c3=>?_) (fun c3=>?_)
  ·refine aV (aj (bj (aj (ah (ae rfl rfl (ai rfl rfl (ad (aj (ah (ae rfl rfl (ae rfl rfl ?_)))))))))));refine aP rfl rfl Sz (vK _ hs) (fun r wc hc=>?_);obtain⟨rfl,rfl⟩:=hc;refine ae rfl rfl (dy rfl rfl rfl (ad ?_));refine bI rfl (fun c5=>?_) (fun c5=>?_)
   ·refine ah ?_;obtain⟨g7,m7,wsi,oI,zL⟩:=hx;refine aE kS rfl rfl rfl g7 rfl (bz (v':= .pointer (some ⟨os,0,none⟩)) rfl (ae rfl rfl ?_));refine aP rfl rfl RH (zI oI (i:=(i:Int)) (fun j hj=>by rw[zL j]at hj;unfold rh at hj;simp only[bC,decide_eq_true_eq]at hj;exact hj.1)) (fun r6 w6 hc=>?_);obtain⟨qD,GZ,Dv,s6⟩:=hc;have hx:=kN.cut (P:=rh s.1.length s upto i) ⟨g7,m7,wsi,oI,zL⟩ GZ s6 ⟨_,oI.w⟩ (fun j=>by rw[Dv j,zL j]);replace hs:=hs.le (by decide) s6.le;replace he:=he.le s6.le;replace S:=S.cu s6 (fun b (hb:b=ow)=>by omega);replace hM:=s6.lt hM;refine ad (ah (bB rfl rfl rfl (by omega) (ae rfl rfl (ad ?_))));refine⟨rfl,i+1,(.cons rfl (.cons rfl (.cons rfl (.cons rfl (.cons rfl (.cons rfl .nil)))))),?_,?_⟩
    ·exact⟨M1,hM,S,hx.eq (IW c5),hs,he,by omega⟩
    ·omega
   ·refine aV (ah (bB rfl rfl rfl (by omega) (ae rfl rfl (ad ?_))));refine⟨rfl,i+1,(.cons rfl (.cons rfl (.cons rfl (.cons rfl (.cons rfl (.cons rfl .nil)))))),?_,?_⟩
    ·exact⟨M1,hM,S,hx.eq (GY c5),hs,he,by omega⟩
    ·omega
  ·refine cN (aj (aj (ah (ae rfl rfl (bT Tryz.underlying75 rfl he rfl (ae rfl rfl (ad (bj ?_))))))));obtain rfl:i=s.1.length:=by omega
   replace hx:=hx.eq (IX (ls:=ls));refine T.RF (σ:=Nat×List Nat) (fun q=>[(0,v0),(2,.int .i64 upto),(7,.pointer (some ⟨jB,0,none⟩)),(29,ve),(30,.int .i64 (es.length:Int)),(31,.int .i64 (q.1:Int))]) (fun q=>q.2.map mark) (fun q w=>∃M1,Lt M1 w∧Step M w0 M1 w aC∧kN s.1.length jB os ow (oH s.1.length s ls upto (es.take q.1)) M1 w∧ch RT.se M1 w v0 s∧(RT.er.sl).V M1 w es ve∧fq M1 w w0.heap.size q.2∧q.1≤es.length) (fun q=>es.length-q.1) (0,[]) (.cons rfl (.cons rfl (.cons rfl (.cons rfl (.cons rfl (.cons rfl .nil)))))) rfl ?_ ?_
   ·exact⟨_,hM,S,hx,hs,he,fq.nil _ _ _,bH _⟩
   ·clear S hs he hM hx;rintro⟨k,Ds⟩ w ⟨M1,hM,S,hx,hs,he,J7,hk⟩;dsimp only at hx J7 hk ⊢;refine aj (ah (cd rfl rfl rfl (ad (aj ?_))));refine bI rfl (fun c9=>?_) (fun c9=>?_)
    ·refine aV (aj (bj (aj (ah ?_))));obtain⟨e,uC⟩:∃e,es[k]? =some e:=⟨_,aN (by omega)⟩;refine dq (M:=M1) Tryz.underlying75 xN rfl rfl rfl he (aq _ _) (by omega) (fun afu e' J5 RI=>?_);rw[az]at J5;obtain rfl:=bM (uC.symm.trans J5);refine cC (M:=M1) (A:=RT.er) kR rfl xN (by decide) rfl rfl rfl RI (aq _ _) (fun afv hve=>?_);have YA:=hve;obtain⟨rfl,⟨YB,YC⟩,afx⟩:=GG YA;refine oc (A:=RT.er) (M:=M1) xN rfl rfl rfl rfl rfl (by assumption) (aq _ _) hM (fun QQ QR qj px QS=>?_);replace hs:=hs.le (by decide) px.le;replace he:=he.le px.le;replace hM:=px.lt hM;have:=S.size;replace S:=S.ay px;refine ad (aj (aj (ah ?_)));replace hx:=kN.kept hx px (fun b h=>h.elim);replace J7:=J7.step px (fun b h=>h.elim);refine aH (M:=M1) (A:=RT.er) (B:=RT.int .i64) kR rfl rfl I3 (by decide) XV rfl rfl (by decide) qj (aq _ _) (fun afy RJ=>?_);refine cc (M:=M1) ar rfl rfl RJ (aq _ _) (fun hez=>?_);refine bz (v':= .int .i64 e.2) rfl (ae rfl rfl (dy rfl rfl rfl (ad ?_)));refine bI rfl (fun KN=>?_) (fun KN=>?_)
     ·refine cN (ah (bB rfl rfl rfl (by omega) (ae rfl rfl (ad ?_))));refine⟨(k+1,Ds),rfl,(.cons rfl (.cons rfl (.cons rfl (.cons rfl (.cons rfl (.cons rfl .nil)))))),?_,?_⟩
      ·exact⟨_,hM,S,hx.eq (fun j=>by dsimp only;rw[cg,uC,cZ,vR,decide_eq_false (show¬e.2<upto by omega)];simp),hs,he,J7,by dsimp only;omega⟩
      ·dsimp only;omega
     ·refine aV (aj (ah (ae rfl rfl ?_)));refine cC (M:=M1) (A:=RT.er) kR rfl xN (by decide) rfl rfl rfl qj (aq _ _) (fun afz RL=>?_);refine aP rfl rfl X0 (tB _ hM hs RL) (fun R6 EK hc=>?_);obtain⟨bs,u,rfl,Fo,hu,Su,kO⟩:=hc;have X5:zK bs v0 s u e es ve M1 EK:=⟨⟨Fo,fun h=>by have:=hM _ h;omega,hs.le (by decide) kO.le,hu⟩,he.le kO.le⟩;replace hx:=kN.kept hx kO (fun b h=>h.elim);replace J7:=J7.step kO (fun b h=>h.elim);replace hs:=hs.le (by decide) kO.le;replace he:=he.le kO.le;replace qj:=qj.le (by decide) kO.le;replace hM:=kO.lt hM;have:=S.size;replace S:=S.ay kO;refine ad (bj ?_);refine T.range (gf:=122) (lb:=[.pointer (some ⟨bs,0,none⟩),u].toArray) rfl MP (fun rec mM=>?_);obtain⟨D,hD⟩:∃D,D=EK.heap.size:=⟨_,rfl⟩;obtain⟨Mr,h0⟩:=Yy (X:=kN s.1.length jB os ow (uA s.1.length s ls upto (es.take k) e 0)) (K:=zK bs v0 s u e es ve) (C:=216) (st:=rec .ready none) gT kN.kept hM S (hx.eq (fun j=>by unfold uA;simp)) X5 J7;rw[←hD]at mM h0 ⊢;refine Spec.mono (qV (ls:=ls) (u:=u) xv DD IN (xM e (aL uC)) YB YC (M:=Mr) (J:=fun i M' w=>GX (kN s.1.length jB os ow (uA s.1.length s ls upto (es.take k) e i)) (zK bs v0 s u e es ve) M w0 Ds D (rec .ready none) M' w) (Jx:=fun _=>False) _ (fun i M' w h=>⟨h.lt,h.k.1⟩) (fun i M' w M2 w2 N h s hN=>h.GI gT kN.kept s (fun b hb=>⟨by have h1:=(hN b hb).1;have h2:=h.z;simp at h1;omega,(hN b hb).2⟩)) (fun i M' wr x h I4=>?_) h0) (fun _ w3 h3=>?_)
      ·refine kZ (ps:=[42]) (vs:=[.int .i64 x]) mM h.r rfl (by decide) (ah (ai rfl rfl (ad ?_)));refine⟨rfl,h.r,?_⟩;have h4:=h.mu gT kN.kept (st':=rec .busy none);have s4:Step M' wr M' (wr.putObj (D+1) (.loop (rec .busy none))) (fun k=>k=D+1):=dG h.mr;generalize wr.putObj (D+1) _=w4 at h4 s4 ⊢;refine bj (ah ?_);obtain⟨g7,m7,wsi,oI,zL⟩:=h4.x;refine aE kS rfl rfl rfl g7 rfl (bz (v':= .pointer (some ⟨os,0,none⟩)) rfl (ae rfl rfl ?_));refine aP rfl rfl RH (zI oI (i:=x) (fun j hj=>by rw[zL j]at hj;exact Nc hj)) (fun r5 w5 hc=>?_);obtain⟨qD,GZ,Dv,s5⟩:=hc;refine ad ?_;have x5:=kN.cut h4.x GZ s5 ⟨_,oI.w⟩ (fun j=>by rw[Dv j,zL j]);have h5:=h4.RG gT s5 (fun b (hb:b=ow)=>by omega) (fun b (hb:b=ow) _=>by rw[hb];exact⟨_,_,_,oI.w⟩) (x5.eq (IY I4));have h8:=h5.mu gT kN.kept (st':=rec .ready none);have s8:=dG (w:=w5) (o:= .loop (rec .ready none)) h5.mr;refine⟨h5.r,true,rfl,fun _=>⟨M',fun b=>b=D+1∨b=ow,h8,((s4.cb (fun b hb=> .inl hb) (fun b hb=>?_)).trans s5 (fun b _ hb=> .inr hb)).trans s8 (fun b _ hb=> .inl hb),fun b hb cs hc=>?_⟩,fun h=>by cases h⟩
       ·obtain⟨_,_,wz,hz,_⟩:=h.x;rcases hb with rfl|rfl
        ·exact h.mr
        ·exact hz.mw
       ·obtain⟨_,_,wz,hz,_⟩:=h.x;rcases hb with rfl|rfl
        ·rw[h.r]at hc;cases hc
        ·rw[hz.w]at hc;injection hc with hc;injection hc with _ hc;exact absurd hc (by decide)
      ·obtain⟨M',h⟩:=h3.resolve_right id;left;refine⟨h.r,?_⟩;have h5:=h.mu gT kN.kept (st':=rec .exhausted none);generalize w3.putObj (D+1) _=wE at h5 ⊢;refine ah (bB rfl rfl rfl (by omega) (ae rfl rfl (ad ?_)));refine⟨(k+1,D::Ds),rfl,(.cons rfl (.cons rfl (.cons rfl (.cons rfl (.cons rfl (.cons rfl .nil)))))),?_,?_⟩
       ·exact⟨_,h5.lt,h5.S,h5.x.eq (fun j=>by dsimp only;rw[cg,uC,cZ];exact IZ (by omega) j),h5.k.1.2.2.1,h5.k.2,h5.ms.cons h5.dn h5.d h5.md h5.z,by dsimp only;omega⟩
       ·dsimp only;omega
    ·refine cN (aj (ah ?_));obtain⟨g7,m7,wsf,oI,RM⟩:=hx;refine aE kS rfl rfl rfl g7 rfl (bz (v':= .pointer (some ⟨os,0,none⟩)) rfl (ai rfl rfl (ad (aJ ?_))));exact Na rfl rfl J7 (fun w' s'=>⟨os,ow,wsf,M1,rfl,by omega,by omega,S.cu s' (fun b hb=>hb.2.1),oI.step s' (fun hn=>by have:=hn.2.2;rw[oI.s]at this;cases this) (fun hn=>by have:=hn.2.2;rw[oI.w]at this;cases this),fun j=>by rw[RM j,bp (by omega)]⟩)
end Go.K
namespace Go.K
open Go.Proofs
namespace TKLater
theorem xN:TI Tryz.prog 51 (.agg #[(.string ⟨#[]⟩),(.string ⟨#[]⟩),(.int .i64 0)]) 3 40:=by unfold TI;kernel_rfl
theorem SC:placesOf Tryz.prog 51=[(0,2),(2,1)].map some:=by kernel_rfl
theorem Rv:Enters Tryz.prog 15:=enters Tryz.func15 rfl (by decide)
theorem E21:Enters Tryz.prog 21:=enters Tryz.func21 rfl (by decide)
theorem E24:Enters Tryz.prog 24:=enters Tryz.func24 rfl (by decide)
theorem E26:Enters Tryz.prog 26:=enters Tryz.func26 rfl (by decide)
end TKLater
open TKLater
set_option maxRecDepth 10000
theorem Bs (L:List En):(Gq (ix L)).2.2.2=((keysOf L).map (pk L)).map gJ:=rfl
theorem Bt (L:List En):(Gq (ix L)).2.2.1.length=((keysOf L).map (pk L)).length:=by rw[db];rfl
theorem qo {L:List En} (h:zq (-1) L=true) (hn:L.length≤1000000) (k:List UInt8):IP (lu (Gq (ix L)).2.2.1 ((keysOf L).map (pk L)) k):=by
 show IP (lu (keysOf L) _ _);rw[Bf];exact GH (np h) hn _
end Go.K
namespace Go.K
open Go.Proofs
namespace TKJoins15
theorem MY:TI Tryz.prog 49 (.agg #[(.string ⟨#[]⟩),(.string ⟨#[]⟩),(.int .i64 0)]) 3 40:=by unfold TI;kernel_rfl
theorem xN:TI Tryz.prog 51 (.agg #[(.string ⟨#[]⟩),(.string ⟨#[]⟩),(.int .i64 0)]) 3 40:=by unfold TI;kernel_rfl
theorem Rv:Enters Tryz.prog 15:=enters Tryz.func15 rfl (by decide)
theorem E21:Enters Tryz.prog 21:=enters Tryz.func21 rfl (by decide)
theorem E26:Enters Tryz.prog 26:=enters Tryz.func26 rfl (by decide)
theorem E47:Enters Tryz.prog 47:=enters Tryz.func47 rfl (by decide)
theorem YD:Enters Tryz.prog 48:=enters Tryz.func48 rfl (by decide)
theorem E51:Enters Tryz.prog 51:=enters Tryz.func51 rfl (by decide)
theorem E52:Enters Tryz.prog 52:=enters Tryz.func52 rfl (by decide)
theorem E55:Enters Tryz.prog 55:=enters Tryz.func55 rfl (by decide)
end TKJoins15
open TKJoins15
set_option maxRecDepth 10000
theorem G0 {n:Nat} {s:Se} {ls:List (List Po)} {upto:Int} (xs ys:List Er) (j:Nat):(oH n s ls upto xs j&&oH n s ls upto ys j)=oH n s ls upto (xs++ys) j:=by
 unfold oH;rw[List.any_append]
 cases decide (j<n)<;>cases decide (vI s.2.1 (j:Int)<upto)<;>simp[Bool.not_or]
theorem vS {ws vs:List Nat} (h:∀j,bit ws j=bit vs j):∀p,low ws p=low vs p
 |0=>rfl
 |p+1=>by rw[low,low,h p,vS h p]
theorem ri {M:aA} {l:List Dc} {ea eb:List Er} {v0 v1 v2:Value} {upto:Int} {w0:World} (hM:Lt M w0) (hv:(RT.dc.sl).V M w0 l v0) (mn:(RT.er.sl).V M w0 ea v1) (ny:(RT.er.sl).V M w0 eb v2) (hx: -9223372036854775808≤upto∧upto≤9223372036854775807) (h0: ¬M 0) (GR:∃e fr,w0.heap[0]? =some (.cells (Ej.map fun(k:Nat)=>Value.int .u8 (k:Int)).toArray e fr)):
  Spec Tryz.prog 12 #[v0,v1,v2,.int .i64 upto] w0 (fun v w=>v= .bool true∧Step M w0 M w aC):=by
 have jH:=hM;have hgl:=jI l 0 2 10;obtain⟨fv,_⟩:=zF l (show(0:Int)≤0 by decide) (show(1:Int)≤2 by decide) 10;obtain⟨etb,ftb,SE⟩:=GR;have YR:=dM mn;have Wo:=dM ny;refine aX (args:=[_,_,_,_]) (fn:=Tryz.f12) Tryz.func12 rfl (n:=79) Tryz.ntmps12 ?_;have S:Step M w0 M w0 aC:=(an _ _).cb (fun _ h=>h.elim) (fun _ h=>h.elim);refine aj (ah (ai rfl rfl (ad (aj (ah (ae rfl rfl ?_))))));refine aP rfl rfl E21 (AA (most:=10) (a:=0) (s:=2) _ hM hv (by decide) (by decide) (by decide)) (fun r1 w1 hc=>?_);obtain⟨hg,s1⟩:=hc;replace hv:=hv.le s1.le;replace mn:=mn.le s1.le;replace ny:=ny.le s1.le;replace hM:=s1.lt hM;have:=S.size;replace S:=S.ay s1;refine ai rfl rfl (ad (aj (ah (ae rfl rfl ?_))));refine aP rfl rfl Rv (tC _ hM hg Bp (by omega) fv) (fun r2 w2 hc=>?_);obtain⟨sa,rfl,hs,s2⟩:=hc;obtain⟨aa,rfl⟩:=hs.iZ;replace hv:=hv.le s2.le;replace mn:=mn.le s2.le;replace ny:=ny.le s2.le;replace hg:=hg.le s2.le;replace hM:=s2.lt hM;have:=S.size;replace S:=S.ay s2;refine ae rfl rfl (bP rfl rfl rfl (bP rfl rfl rfl (ai rfl rfl (ai rfl rfl (ad (aj (aj (ah (ae rfl rfl (Rg.sc Tryz.underlying25 rfl rfl rfl (ad ?_)))))))))));refine T.zR rfl ((by simp)) (aV (aj (ah (ae rfl rfl (ae rfl rfl (bT qt rfl mn rfl (Rg.min2 rfl rfl rfl ?_)))))));refine Rg.vW (M:=M) qt MY rfl rfl rfl mn (by omega) (fun u54 RN=>?_);refine aP rfl rfl E47 (vP _ hM RN (dM RN)) (fun r5 w5 hc=>?_);obtain⟨he,s5⟩:=hc;replace hv:=hv.le s5.le;replace mn:=mn.le s5.le;replace ny:=ny.le s5.le;replace hg:=hg.le s5.le;replace hs:=hs.le (by decide) s5.le;replace hM:=s5.lt hM;have:=S.size;replace S:=S.ay s5;refine ai rfl rfl (ad (aj (ah (ae rfl rfl (ae rfl rfl (bT qt rfl ny rfl (Rg.min2 rfl rfl rfl ?_)))))))
 refine Rg.vW (M:=M) qt MY rfl rfl rfl ny (by omega) (fun u64 RO=>?_);refine aP rfl rfl E47 (vP _ hM RO (dM RO)) (fun r6 w6 hc=>?_);obtain⟨hf,s6⟩:=hc;replace hv:=hv.le s6.le;replace mn:=mn.le s6.le;replace ny:=ny.le s6.le;replace hg:=hg.le s6.le;replace hs:=hs.le (by decide) s6.le;replace he:=he.le s6.le;replace hM:=s6.lt hM;have:=S.size;replace S:=S.ay s6;refine ai rfl rfl (ad (aj (ah (ai rfl rfl (ad (aj (ah (ae rfl rfl (ae rfl rfl ?_)))))))));have uE:=List.length_take_le 20 (ea.take (min (ea.length:Int) 10).toNat);have Cm:=List.length_take_le 20 (eb.take (min (eb.length:Int) 10).toNat);refine cO (M:=M) (base:=w0.heap.size) (xs:=[]) Tryz.underlying75 xN rfl rfl rfl rfl (ec _ _ _ _ _) he (aq _ _) (by simp;omega) (by simp;omega) S.size (fun v8 M8 w8 ho8 s8=>?_);replace s8:=s8.cb (N':=aC) (fun b hb=>by unfold iT at hb;cases hb) (fun b h=>h.elim);replace hv:=hv.le s8.le;replace mn:=mn.le s8.le;replace ny:=ny.le s8.le;replace hg:=hg.le s8.le;replace hs:=hs.le (by decide) s8.le;replace he:=he.le s8.le;replace hf:=hf.le s8.le;replace hM:=s8.lt hM;have:=S.size;replace S:=S.ay s8;refine ai rfl rfl (ad (aj (ah (ae rfl rfl (ae rfl rfl ?_)))));refine cO (M:=M8) (base:=w0.heap.size) Tryz.underlying75 xN rfl rfl rfl rfl ho8 hf (aq _ _) (by simp;omega) (by simp;omega) S.size (fun v9 M9 w9 JQ s9=>?_);have Rm:=JQ.base;have fL:(RT.er.sl).V (rm M9 v9) w9 _ v9:=JQ.view (by simp;omega);rw[gN]at fL;replace hs:=(hs.le (by decide) s9.le).le (by decide) (l3 M9 v9 w9);replace he:=(he.le s9.le).le (l3 M9 v9 w9);replace hf:=(hf.le s9.le).le (l3 M9 v9 w9);replace hM:=(s9.lt hM).rm v9;replace S:=(S.dh s9 ho8 (bh _)).freeze (fun b hb=>(Rm b hb).1);clear hg hv mn ny;generalize rm M9 v9=Mz at fL hs he hf hM S;refine ai rfl rfl (ad (aj (ah (ae rfl rfl (ae rfl rfl (ae rfl rfl ?_))))))
 refine aP rfl rfl YD (qn (ls:=(keysOf (fO l 0 2 10)).map (pk (fO l 0 2 10))) _ hM hs (jC _) (Bs _) (Bt _) (by show(List.map _ _).length≤_;rw[db];omega) he (by omega) (fun e _=>qo fv (by omega) _)) (fun Y2 UW hc=>?_);obtain⟨afD,afE,afF,M10,rfl,afG,afH,oJ,tJ,Nd⟩:=hc;replace hs:=hs.le (by decide) oJ.le;replace he:=he.le oJ.le;replace hf:=hf.le oJ.le;replace fL:=fL.le oJ.le;replace hM:=oJ.lt hM;have:=S.size;replace S:=S.ay oJ;refine ai rfl rfl (ad (aj (ah (ae rfl rfl (ae rfl rfl (ae rfl rfl ?_))))));refine aP rfl rfl YD (qn (ls:=(keysOf (fO l 0 2 10)).map (pk (fO l 0 2 10))) _ hM hs (jC _) (Bs _) (Bt _) (by show(List.map _ _).length≤_;rw[db];omega) hf (by omega) (fun e _=>qo fv (by omega) _)) (fun r11 Sv hc=>?_);obtain⟨afI,afJ,afK,M11,rfl,afL,afM,qQ,Bu,Nf⟩:=hc;replace tJ:=tJ.step qQ (fun h=>h) (fun h=>h);replace hs:=hs.le (by decide) qQ.le;replace he:=he.le qQ.le;replace hf:=hf.le qQ.le;replace fL:=fL.le qQ.le;replace hM:=qQ.lt hM;have:=S.size;replace S:=S.ay qQ;refine ai rfl rfl (ad (aj (ah (ae rfl rfl (ae rfl rfl (ae rfl rfl ?_))))));refine aP rfl rfl YD (qn (ls:=(keysOf (fO l 0 2 10)).map (pk (fO l 0 2 10))) _ hM hs (jC _) (Bs _) (Bt _) (by show(List.map _ _).length≤_;rw[db];omega) fL (by rw[bJ];omega) (fun e _=>qo fv (by omega) _)) (fun R6 EK hc=>?_);obtain⟨afN,afO,YE,NW,rfl,afP,afQ,kO,tK,Bv⟩:=hc;replace tJ:=tJ.step kO (fun h=>h) (fun h=>h);replace Bu:=Bu.step kO (fun h=>h) (fun h=>h);replace hs:=hs.le (by decide) kO.le;replace he:=he.le kO.le;replace hf:=hf.le kO.le;replace fL:=fL.le kO.le;replace hM:=kO.lt hM;have:=S.size;replace S:=S.ay kO;refine ai rfl rfl (ad (aj (aj (ah (ae rfl rfl (Rg.sc kS rfl rfl rfl (ae rfl rfl (Rg.zQ (g:=60) rfl ((by simp)) (al rfl rfl (ae rfl rfl (al rfl rfl ?_)))))))))))
 refine Rg.sc kS rfl rfl rfl (ax rfl rfl rfl (ae rfl rfl (Rg.zQ (g:=64) rfl ((by simp)) (al rfl rfl (ae rfl rfl (al rfl rfl (Rg.sc kS rfl rfl rfl (ax rfl rfl rfl (ad (T.zR rfl ((by simp)) (aV ?_)))))))))));refine aj (ah (ae rfl rfl (ae rfl rfl ?_)));refine aP rfl rfl E55 (Dq hM tJ Bu) (fun Ze ND hc=>?_);obtain⟨afR,afS,YF,M15,rfl,afT,afU,qa,Ng,Nh⟩:=hc;replace tK:=tK.step qa (fun h=>h) (fun h=>h);replace hs:=hs.le (by decide) qa.le;replace he:=he.le qa.le;replace hf:=hf.le qa.le;replace fL:=fL.le qa.le;replace hM:=qa.lt hM;have:=S.size;replace S:=S.ay qa;refine ai rfl rfl (ad (aj (ah (ae rfl rfl ?_))));have hB:∀j,bit YF j=bit YE j:=fun j=>by rw[Nh j,Nd j,Nf j,G0,Bv j]
 have Ni:=S.aI SE;refine aP rfl rfl E52 (tI hM Ng (fun j hj=>xD ((Bv j).symm.trans ((hB j).symm.trans hj))) (fun hn=>h0 ((S.mem 0 (ak SE)).1 hn)) ⟨etb,ftb,Ni⟩) (fun afV afW hc=>?_);obtain⟨tL,Bw⟩:=hc;replace tK:=tK.step Bw (fun h=>h) (fun h=>h);replace hs:=hs.le (by decide) Bw.le;replace he:=he.le Bw.le;replace hf:=hf.le Bw.le;replace fL:=fL.le Bw.le;replace hM:=Bw.lt hM;have:=S.size;replace S:=S.ay Bw;refine ae rfl rfl ?_;have Nj:=S.aI SE;refine aP rfl rfl E52 (tI hM tK (fun j hj=>xD ((Bv j).symm.trans hj)) (fun hn=>h0 ((S.mem 0 (ak SE)).1 hn)) ⟨etb,ftb,Nj⟩) (fun afX afY hc=>?_);obtain⟨zM,Bx⟩:=hc;replace hs:=hs.le (by decide) Bx.le;replace he:=he.le Bx.le;replace hf:=hf.le Bx.le;replace fL:=fL.le Bx.le;replace tL:=tL.le Bx.le;replace hM:=Bx.lt hM;have:=S.size;replace S:=S.ay Bx;refine aP rfl rfl E51 (C9 hM tL zM) (fun afZ af0 hc=>?_);obtain⟨rfl,zN⟩:=hc;refine bz (v':= .bool true) (congrArg Value.bool (decide_eq_true (vS hB _))) ?_;replace hs:=hs.le (by decide) zN.le;replace he:=he.le zN.le;replace hf:=hf.le zN.le;replace fL:=fL.le zN.le;replace tL:=tL.le zN.le;replace zM:=zM.le zN.le;replace hM:=zN.lt hM;have:=S.size;replace S:=S.ay zN;refine ae rfl rfl (al rfl rfl ?_);refine aP rfl rfl E26 (xB _ hM) (fun r25 w25 hc=>?_);obtain⟨rfl,J8⟩:=hc;replace hs:=hs.le (by decide) J8.le;replace he:=he.le J8.le;replace hf:=hf.le J8.le;replace fL:=fL.le J8.le;replace tL:=tL.le J8.le;replace zM:=zM.le J8.le;replace hM:=J8.lt hM;have:=S.size;replace S:=S.ay J8;refine aR rfl rfl rfl (ai rfl rfl (ad (aJ ?_)));exact aO rfl rfl ⟨rfl,S.back⟩
end Go.K

/- What the law 'EraseLess' needs of walks and plain Lean, part 5: nothing is assumed beyond the texts that it imports. -/
import Derived.KernelRfl
import Derived.Laws.StructEq
import Derived.Test.YtohfoenhmkfjkaaGreatDoorProg
import Derived.Test.YtohfoenhmkfjkaaGreatDoorZEraseLess1
import Derived.Test.YtohfoenhmkfjkaaGreatDoorZEraseLess2
import Derived.Test.YtohfoenhmkfjkaaGreatDoorZEraseLess3
import Derived.Test.YtohfoenhmkfjkaaGreatDoorZEraseLess4
set_option linter.unusedVariables false
set_option linter.unusedSimpArgs false
namespace Go.K
open Go.Proofs
namespace TKErsB
theorem SM:Enters Tryz.prog 70:=enters Tryz.func70 rfl (by decide)
theorem E95:Enters Tryz.prog 95:=enters Tryz.func95 rfl (by decide)
theorem E96:Enters Tryz.prog 96:=enters Tryz.func96 rfl (by decide)
end TKErsB
open TKErsB
set_option maxRecDepth 10000
def mu (l:List Po) (sq:List Int) (t:Int):List Int:=(l.map (·.1)).takeWhile fun d=>decide (vQ sq d<t)
theorem Kb {α:Type} {p:α→Bool}:∀{xs:List α} {k:Nat} {d:α},(∀(j:Nat) x,j<k→xs[j]? =some x→p x=true)→xs[k]? =some d→p d=true→(xs.takeWhile p)[k]? =some d
 |[],_,_,_,h,_=>by simp at h
 |x::xs,0,d,_,h,hp=>by simp at h;subst h;simp[tT,hp]
 |x::xs,k+1,d,h1,h,hp=>by
  rw[tT,if_pos (h1 0 x (by omega) rfl),List.getElem?_cons_succ];exact Kb (fun j y hj hy=>h1 (j+1) y (by omega) (by simpa using hy)) (by simpa using h) hp
theorem Bp {α:Type} {p:α→Bool}:∀{xs:List α} {k:Nat},(∀(j:Nat) x,j<k→xs[j]? =some x→p x=true)→k≤xs.length→(∀d,xs[k]? =some d→p d=false)→(xs.takeWhile p).length=k
 |[],k,_,h,_=>by simp at h;simp[h]
 |x::xs,0,_,_,h=>by rw[tT,if_neg (by rw[h x rfl];decide)];rfl
 |x::xs,k+1,h1,h2,h=>by
  rw[tT,if_pos (h1 0 x (by omega) rfl),cr,Bp (k:=k) (fun j y hj hy=>h1 (j+1) y (by omega) (by simpa using hy)) (by simpa using h2) (fun d hd=>h d (by simpa using hd))]
structure I4 (l:List Po):Prop where
 may:dP (-1) l=true
 ps:∀p∈l,p.2.length≤1099511627776
 by_:(dy (-1) l).length≤1099511627776
 ln:l.length≤1099511627776
theorem GQ {L:List En} (hF:∀e∈L,iB e.1) (hn:L.length≤1000000) (k:List UInt8):I4 (pk L k):=by
 have h1:=qm k L 0 hF;have pE:dP (-1) (pk L k)=true:=rD k L 0 (-1) hF (by omega) (by omega);have ri:∀p∈pk L k,p.2.length≤500:=fun p hp=>(h1.2 p hp).2.2
 obtain⟨h2,h3⟩:=qn (pk L k) (-1) 500 (by omega) pE ri (by omega);have hl:(pk L k).length≤L.length:=h1.1;exact⟨pE,fun p hp=>by have:=ri p hp;omega,by omega,by omega⟩
theorem tJ {M:aA} {s:Se} {e:Er} {v0 ve:Value} (w0:World) (hM:Lt M w0) (hs:ch RT.se M w0 v0 s) (he:RT.er.V M w0 e ve):
  Spec Tryz.prog 72 #[v0,ve] w0 (fun v w=>∃bs u,v= .func (.func 122) #[] [.pointer (some ⟨bs,0,none⟩),u].toArray∧w.heap[bs]? =some (.cells #[v0] 25 (0,0))∧ch RT.er M w u e∧w0.heap.size≤bs∧Step M w0 M w aC):=by
 refine aX (args:=[_,_]) (fn:=Tryz.f72) Tryz.func72 rfl (n:=6) Tryz.ntmps72 (aj (ah ?_));refine oT M rfl rfl (fun bs w1 p1 q1 g1 s1=>?_);rw[qp hs]at g1;replace s1:=s1.back;refine kh (A:=RT.er) (a:=e) rfl rfl (s1.lt hM) (he.le s1.le) rfl (fun u w2 hu s2 _=>?_);refine ai rfl rfl (ad (aj (ah (hY (xs:=[]) (ys:=[.tmp 2,.tmp 3]) rfl rfl rfl (ai rfl rfl (ad (aJ ?_)))))));exact aO rfl rfl ⟨bs,u,rfl,s2.aI g1,hu,p1,s1.ay s2⟩
theorem zF {bs yl:Nat} {u v0:Value} {s:Se} {ls:List (List Po)} {e:Er} {J:Nat→aA→World→Prop} {M:aA} {Jx:World→Prop} (w0:World) (xC:xp s.2.2.1) (DK:s.2.2.2=ls.map gK) (I2:s.2.2.1.length=ls.length) (xU:I4 (lz s.2.2.1 ls (de e.1))) (h1:e.1.1.length≤140737488355328) (h2:e.1.2.length≤140737488355328) (DM:∀i M w,J i M w→w.heap[bs]? =some (.cells #[v0] 25 (0,0))∧Lt M w∧ch RT.se M w v0 s∧ch RT.er M w u e) (iz:∀i M w M' w' N,J i M w→Step M w M' w' N→(∀b,N b→w0.heap.size≤b∧(b<w.heap.size→∃cs,w.heap[b]? =some (.cells cs 216 (0,0))))→J i M' w') (hy:∀(i:Nat) (M:aA) (w:World) (d:Int),J i M w→(mu (lz s.2.2.1 ls (de e.1)) s.2.1 e.2)[i]? =some d→qI Tryz.prog yl [.int .i64 d].toArray w (fun r w'=>∃b,r= .bool b∧(b=true→∃M' N,J (i+1) M' w'∧Step M w M' w' N∧∀k,N k→∀cs,w.heap[k]? ≠some (.cells cs 216 (0,0)))∧(b=false→Jx w'))) (h0:J 0 M w0):
  Spec Tryz.prog 122 #[.func (.yield yl) #[] #[],.pointer (some ⟨bs,0,none⟩),u] w0 (fun _ w=>(∃M',J (mu (lz s.2.2.1 ls (de e.1)) s.2.1 e.2).length M' w)∨Jx w):=by
 obtain⟨gb,hM,hs,hu⟩:=DM _ _ _ h0;refine aX (args:=[_,_,_]) (fn:=Tryz.f122) Tryz.func122 rfl (n:=28) Tryz.ntmps122 (aj (ah (aE Tryz.underlying25 rfl rfl rfl gb rfl (bu (v':=v0) rfl ?_))));refine aH (M:=M) (A:=RT.er) (B:=RT.fd) iD rfl rfl qM (by decide) er0 rfl rfl (by decide) hu (aq _ _) (fun uf xA=>?_);refine cx (M:=M) (A:=RT.fd) b9 rfl qM (by decide) rfl rfl rfl xA (aq _ _) (fun vt DO=>?_);obtain rfl:=kN DO;refine aP rfl rfl E95 (xG (t:=e.1) _ hM hs xC DK I2 h1 h2) (fun r0 w1 hc=>?_);obtain⟨bc,rfl,hz,s1,hC⟩:=hc;have Ya:=iz _ _ _ _ _ _ h0 s1 (fun b h=>h.elim);generalize ins M bc=M0 at s1 hC Ya;refine ai rfl rfl (ad (aj (ah (ae rfl rfl ?_))));obtain⟨_,rq,_,_⟩:=DM _ _ _ Ya;refine aP rfl rfl E96 (vT hC rq xU.may xU.ps xU.by_ xU.ln) (fun r2 w2 h=>?_);obtain⟨rfl,s2,Rr⟩:=h;have SN:=iz _ _ _ _ _ _ Ya s2 (fun b (h:b=bc)=>⟨by omega,fun _=>by(obtain⟨_,_,_,_,_,h9,_⟩:=hC;exact⟨_,by rw[h];exact h9⟩)⟩);have Jr:pH (lz s.2.2.1 ls (de e.1)) (-1)=((0:Nat):Int):=by unfold pH;rw[if_pos (by omega)];rfl
 rw[Jr]at Rr ⊢;refine ai rfl rfl (ad (a8 ?_));refine dC (σ:=Nat) (fun k=>[(0,.func (.yield yl) #[] #[]),(1,.pointer (some ⟨bs,0,none⟩)),(2,u),(4,.pointer (some ⟨bc,0,none⟩)),(5,.int .i64 (eB (lz s.2.2.1 ls (de e.1)) (k:Int)))]) (fun k w=>k≤(lz s.2.2.1 ls (de e.1)).length∧(∀(j:Nat) x,j<k→((lz s.2.2.1 ls (de e.1)).map (·.1))[j]? =some x→decide (vQ s.2.1 x<e.2)=true)∧∃M1,J k M1 w∧Cu 216 (lz s.2.2.1 ls (de e.1)) (k:Int) M1 w bc) (fun k=>(lz s.2.2.1 ls (de e.1)).length-k) 0 (.cons rfl (.cons rfl (.cons rfl (.cons rfl (.cons rfl .nil))))) ?_ ?_
 ·exact⟨bG _,fun j x h=>absurd h (jz _),_,SN,Rr⟩
 ·rintro k w ⟨hk,Em,M1,hJ,Rr⟩;refine aj (aj ?_);obtain⟨gb2,JA,xM,rl⟩:=DM _ _ _ hJ;by_cases Rs:eB (lz s.2.2.1 ls (de e.1)) (k:Int)<2147483648
  ·obtain⟨d,ps,hx,Jp⟩:∃d ps,(lz s.2.2.1 ls (de e.1))[k]? =some (d,ps)∧eB (lz s.2.2.1 ls (de e.1)) (k:Int)=d:=by
    rcases jd (lz s.2.2.1 ls (de e.1)) (k:Int)with⟨h0,_⟩|⟨j2,d2,ps2,pZ,Sv,h3,_⟩|⟨h0,h1,_⟩
    ·omega
    ·have:j2=k:=by omega
     subst this;exact⟨d2,ps2,Sv,h3⟩
    ·omega
   have Cz:=(av.1 hx).1;apply T.draw (M:=M1) mixed [b8.eq _,b8.eq _,b8.eq (.bool true),b8.eq v0,b8.eq _,b8.eq (.int .i64 (vQ s.2.1 (eB (lz s.2.2.1 ls (de e.1)) (k:Int)))),b8.ptr (RT.int .i64) e.2,b8.eq (.int .i64 e.2),b8.eq _,b8.eq _]
   ·rfl
   ·refine aK ?_ ?_
    ·intro wD E sD;refine ae rfl rfl ?_;exact ad ⟨rfl,rfl,_,rfl,rfl,an _ _⟩
    refine aK ?_ ?_
    ·intro wD E sD;refine aw (cf rfl rfl rfl ?_);exact ad ⟨rfl,rfl,_,rfl,rfl,an _ _⟩
    refine aK ?_ ?_
    ·intro wD E sD;refine aw (ae rfl rfl ?_);refine ad ⟨rfl,rfl,_,rfl,?_,an _ _⟩;exact congrArg Value.bool (decide_eq_true Rs)
    refine aK ?_ ?_
    ·intro wD E sD;refine aw (al rfl rfl (aE Tryz.underlying25 rfl rfl rfl (sD.aI gb2) rfl ?_));exact ad ⟨rfl,rfl,_,rfl,rfl,an _ _⟩
    refine aK ?_ ?_
    ·intro wD E sD;refine aw (al rfl rfl (ae rfl rfl ?_));exact ad ⟨rfl,rfl,_,rfl,rfl,an _ _⟩
    refine aK ?_ ?_
    ·intro wD E sD;refine aw (aw (aw (aw (al rfl rfl ?_))));refine aP rfl rfl SM (vS _ (xM.le (by decide) sD.le)) (fun r5 w5 hc=>?_);obtain⟨rfl,rfl⟩:=hc;exact ad ⟨rfl,rfl,_,rfl,rfl,an _ _⟩
    refine aK ?_ ?_
    ·intro wD E sD;refine aw (al rfl rfl ?_);refine aH (M:=M1) (A:=RT.er) (B:=RT.int .i64) iD rfl rfl I3 (by decide) X9 rfl rfl (by decide) rl sD.le (fun uf xA=>?_);exact ad ⟨rfl,rfl,_,rfl,xA,an _ _⟩
    refine aK ?_ ?_
    ·intro wD E sD;intro v6 n0;refine aw (al rfl rfl ?_);refine cb (M:=M1) ar rfl rfl (show ch (RT.int .i64) M1 wD v6 e.2 from n0) (aq _ _) (fun ly=>?_);exact ad ⟨rfl,rfl,_,rfl,rfl,an _ _⟩
    refine aK ?_ ?_
    ·intro wD E sD;refine aw (aw (aw (al rfl rfl (cf rfl rfl rfl ?_))));exact ad ⟨rfl,rfl,_,rfl,rfl,an _ _⟩
    refine aK ?_ ?_
    ·intro wD E sD;refine aw (aw (aQ rfl rfl rfl ?_));exact ad ⟨rfl,rfl,_,rfl,rfl,an _ _⟩
    exact bX.nil
   ·intro wD2 Dk;refine aw (aw (aw (aw (aw (aw ?_)))));intro afb aa9;refine aw (aw (aw ?_));have Hn:=iz _ _ _ _ _ _ hJ Dk (fun b h=>h.elim);have Yb:=Rr.step Dk (fun h=>h);refine bI rfl (fun c2=>?_) (fun c2=>?_)
    ·refine aU (aj (a8 (aj (ah (ae rfl rfl (ae rfl rfl ?_))))));refine Rg.yield rfl (vs:=[.int .i64 (eB (lz s.2.2.1 ls (de e.1)) (k:Int))]) rfl rfl (hy k M1 _ _ Hn (by rw[Jp];exact Kb Em (by rw[ew,hx];rfl) (by rw[←Jp];simpa using c2))) (fun r4 w5 h5=>?_);obtain⟨b,rfl,NF,nQ⟩:=h5;refine Rg.not rfl rfl (bu (v':= .bool (decide (¬b=true))) (by simp) (ad ?_));refine bI rfl (fun c4=>?_) (fun c4=>?_)
     ·refine aJ ?_;exact BE rfl (.inr (nQ (by simpa using c4)))
     ·refine aU (ah (ae rfl rfl ?_));obtain⟨M2,N2,SJ,s4,hN4⟩:=NF (dU.1 c4);have hC4:=Yb.step s4 (fun h=>by obtain⟨_,_,_,_,_,h9,_⟩:=Yb;exact hN4 _ h _ h9);obtain⟨_,MF,_,_⟩:=DM _ _ _ SJ;refine aP rfl rfl E96 (vT hC4 MF xU.may xU.ps xU.by_ xU.ln) (fun r6 w6 h=>?_);obtain⟨rfl,s6,hC6⟩:=h;have hJ6:=iz _ _ _ _ _ _ SJ s6 (fun b (h:b=bc)=>⟨by omega,fun _=>by(obtain⟨_,_,_,_,_,h9,_⟩:=hC4;exact⟨_,by rw[h];exact h9⟩)⟩);have Jr:pH (lz s.2.2.1 ls (de e.1)) (k:Int)=((k+1:Nat):Int):=by unfold pH;rw[if_pos (by omega)];rfl
      rw[Jr]at hC6 ⊢;refine ai rfl rfl (ad ?_);refine⟨rfl,k+1,(.cons rfl (.cons rfl (.cons rfl (.cons rfl (.cons rfl .nil))))),?_,?_⟩
      ·exact⟨by omega,fun j x hj Yc=>by
        rcases cK j k with h|h
        ·exact Em j x h Yc
        ·rw[show j=k by omega,ew,hx]at Yc;cases Yc;rw[←Jp];simpa using c2,_,hJ6,hC6⟩
      ·omega
    ·refine cM ?_
     first|refine fC.nil ?_|simp+decide only[rJ,kG,if_true,if_false]|skip
     have el:(mu (lz s.2.2.1 ls (de e.1)) s.2.1 e.2).length=k:=Bp Em (by rw[db];exact hk) (fun d' BK=>by
      rw[ew]at BK;obtain⟨p,hp,rfl⟩:=Option.map_eq_some_iff.1 BK;have Yd:eB (lz s.2.2.1 ls (de e.1)) (k:Int)=p.1:=gQ hp
      first
      |(rw[Yd]at c2;simpa using c2)
      |(have:=lP xU.may hp;omega))
     exact gJ rfl (.inl ⟨_,by rw[el];exact Hn⟩)
  ·apply T.draw (M:=M1) mixed [b8.eq _,b8.eq _,b8.eq (.bool false),b8.eq undef,b8.eq undef,b8.eq undef,b8.eq undef,b8.eq undef,b8.eq undef,b8.eq _]
   ·rfl
   ·refine aK ?_ ?_
    ·intro wD E sD;refine ae rfl rfl ?_;exact ad ⟨rfl,rfl,_,rfl,rfl,an _ _⟩
    refine aK ?_ ?_
    ·intro wD E sD;refine aw (cf rfl rfl rfl ?_);exact ad ⟨rfl,rfl,_,rfl,rfl,an _ _⟩
    refine aK ?_ ?_
    ·intro wD E sD;refine aw (ae rfl rfl ?_);refine ad ⟨rfl,rfl,_,rfl,?_,an _ _⟩;exact congrArg Value.bool (decide_eq_false Rs)
    refine aK ?_ ?_
    ·intro wD E sD;refine aw ?_;exact ao rfl rfl rfl rfl (ad ⟨rfl,rfl,_,rfl,rfl,an _ _⟩)
    refine aK ?_ ?_
    ·intro wD E sD;refine aw ?_;exact ao rfl rfl rfl rfl (ad ⟨rfl,rfl,_,rfl,rfl,an _ _⟩)
    refine aK ?_ ?_
    ·intro wD E sD;refine aw (aw (aw (aw ?_)));exact ao rfl rfl rfl rfl (ad ⟨rfl,rfl,_,rfl,rfl,an _ _⟩)
    refine aK ?_ ?_
    ·intro wD E sD;refine aw ?_;exact ao rfl rfl rfl rfl (ad ⟨rfl,rfl,_,rfl,rfl,an _ _⟩)
    refine aK ?_ ?_
    ·intro wD E sD;refine aw (aw ?_);exact ao rfl rfl rfl rfl (ad ⟨rfl,rfl,_,rfl,rfl,an _ _⟩)
    refine aK ?_ ?_
    ·intro wD E sD;refine aw (aw (aw ?_));exact ao rfl rfl rfl rfl (ad ⟨rfl,rfl,_,rfl,rfl,an _ _⟩)
    refine aK ?_ ?_
    ·intro wD E sD;refine aw (aw (ax rfl rfl rfl ?_));exact ad ⟨rfl,rfl,_,rfl,rfl,an _ _⟩
    exact bX.nil
   ·intro wD2 Dk;refine aw (aw (aw (aw (aw (aw (aw (aw (aw (aw ?_)))))))));have Hn:=iz _ _ _ _ _ _ hJ Dk (fun b h=>h.elim);have Yb:=Rr.step Dk (fun h=>h);refine hU rfl (cM ?_)
    first|refine fC.nil ?_|simp+decide only[rJ,kG,if_true,if_false]|skip
    have el:(mu (lz s.2.2.1 ls (de e.1)) s.2.1 e.2).length=k:=Bp Em (by rw[db];exact hk) (fun d' BK=>by
     rw[ew]at BK;obtain⟨p,hp,rfl⟩:=Option.map_eq_some_iff.1 BK;have Yd:eB (lz s.2.2.1 ls (de e.1)) (k:Int)=p.1:=gQ hp
     first
     |(rw[Yd]at c2;simpa using c2)
     |(have:=lP xU.may hp;omega))
    exact gJ rfl (.inl ⟨_,by rw[el];exact Hn⟩)
end Go.K
namespace Go.K
open Go.Proofs
namespace TKErsC
theorem tW:TI Tryz.prog 51 (.agg #[(.string ⟨#[]⟩),(.string ⟨#[]⟩),(.int .i64 0)]) 3 40:=by unfold TI;kernel_rfl
theorem E71:Enters Tryz.prog 71:=enters Tryz.func71 rfl (by decide)
theorem Ye:Enters Tryz.prog 72:=enters Tryz.func72 rfl (by decide)
theorem Yf:Enters Tryz.prog 121:=enters Tryz.func121 rfl (by decide)
theorem MY:Enters Tryz.prog 122:=enters Tryz.func122 rfl (by decide)
end TKErsC
open TKErsC
set_option maxRecDepth 10000
def Bq (K:aA→World→Prop) (C:TypeId) (gf:FuncId) (lb:Array Value) (xs:List Int):Prop:=
 ∀{yl:Nat} {J:Nat→aA→World→Prop} {M:aA} {Jx:World→Prop} (w0:World) (_:∀i M w,J i M w→Lt M w∧K M w)
  (_:∀i M w M' w' N,J i M w→Step M w M' w' N→(∀b,N b→w0.heap.size≤b∧(b<w.heap.size→∃cs,w.heap[b]? =some (.cells cs C (0,0))))→J i M' w')
  (_:∀(i:Nat) (M:aA) (w:World) (d:Int),J i M w→xs[i]? =some d→qI Tryz.prog yl [.int .i64 d].toArray w (fun r w'=>∃b,r= .bool b∧(b=true→∃M' N,J (i+1) M' w'∧Step M w M' w' N∧∀k,N k→∀cs,w.heap[k]? ≠some (.cells cs C (0,0)))∧(b=false→Jx w'))) (_:J 0 M w0),
  Spec Tryz.prog gf (#[.func (.yield yl) #[] #[]]++lb) w0 (fun _ w=>(∃M',J xs.length M' w)∨Jx w)
structure zG {α:Type} (A:RT α) (e T C:TypeId) (K:aA→World→Prop) (M:aA) (w0:World) (bo D:Nat) (st:Loop) (vo:Value) (xs:List α) (M':aA) (w:World):Prop where
 lt:Lt M' w
 S:Step M w0 M' w aC
 o:w.heap[bo]? =some (.cells #[vo] T (0,0))
 mo:M' bo
 r:w.heap[D+1]? =some (.loop st)
 mr:M' (D+1)
 d:w.heap[D]? =some (.deferred (some []))
 md:M' D
 own:Own A e M' w w0.heap.size vo xs
 k:K M' w
 z:w0.heap.size≤bo∧w0.heap.size≤D
section
variable {α:Type} {A:RT α} {e T C:TypeId} {K:aA→World→Prop} {M M1 M2 N:aA} {w0 w w':World} {bo D:Nat} {st:Loop} {vo:Value} {xs:List α}
theorem zG.GR (hK:∀{M w M' w'},K M w→Le M w M' w'→K M' w') (h1:C≠e) (h2:C≠T) (h:zG A e T C K M w0 bo D st vo xs M1 w) (s:Step M1 w M2 w' N) (hN:∀b,N b→w0.heap.size≤b∧(b<w.heap.size→∃cs,w.heap[b]? =some (.cells cs C (0,0)))):zG A e T C K M w0 bo D st vo xs M2 w':=by
 have n1: ¬N bo:=fun hn=>by obtain⟨cs,hc⟩:=(hN _ hn).2 (ak h.o);rw[h.o]at hc;injection hc with hc;injection hc with _ hc;exact h2 hc.symm
 have n2: ¬N (D+1):=fun hn=>by obtain⟨cs,hc⟩:=(hN _ hn).2 (ak h.r);rw[h.r]at hc;cases hc
 have n3: ¬N D:=fun hn=>by obtain⟨cs,hc⟩:=(hN _ hn).2 (ak h.d);rw[h.d]at hc;cases hc
 refine⟨s.lt h.lt,h.S.cu s (fun k hk=>(hN k hk).1),s.bF h.o n1,(s.mem _ (ak h.o)).2 h.mo,s.bF h.r n2,(s.mem _ (ak h.r)).2 h.mr,s.bF h.d n3,(s.mem _ (ak h.d)).2 h.md,h.own.step s (fun b hb hn=>?_),hK h.k s.le,h.z⟩;obtain⟨cs,hc⟩:=h.own.isCells hb;obtain⟨Hg,xV⟩:=(hN _ hn).2 (ak hc);rw[hc]at xV;injection xV with xV;injection xV with _ xV;exact h1 xV.symm
theorem zG.bh (hK:∀{M w M' w'},K M w→Le M w M' w'→K M' w') (h:zG A e T C K M w0 bo D st vo xs M1 w) (s:Step M1 w M2 w' aC):zG A e T C K M w0 bo D st vo xs M2 w':=
 ⟨s.lt h.lt,h.S.ay s,s.aI h.o,(s.mem _ (ak h.o)).2 h.mo,s.aI h.r,(s.mem _ (ak h.r)).2 h.mr,s.aI h.d,(s.mem _ (ak h.d)).2 h.md,h.own.bh s,hK h.k s.le,h.z⟩
theorem zG.mE (hK:∀{M w M' w'},K M w→Le M w M' w'→K M' w') {st':Loop} (h:zG A e T C K M w0 bo D st vo xs M1 w):zG A e T C K M w0 bo D st' vo xs M1 (w.putObj (D+1) (.loop st')):=by
 have s:Step M1 w M1 (w.putObj (D+1) (.loop st')) (fun k=>k=D+1):=dH h.mr;obtain⟨z1,z2⟩:=h.z;refine⟨s.lt h.lt,h.S.cu s (fun k (hk:k=D+1)=>by omega),s.bF h.o (fun(hn:bo=D+1)=>by have h1:=h.o;rw[hn,h.r]at h1;cases h1),h.mo,World.putObj_heap_same (ak h.r),h.mr,s.bF h.d (fun(hn:D=D+1)=>by omega),h.md,h.own.step s (fun b hb (hn:b=D+1)=>?_),hK h.k s.le,h.z⟩;obtain⟨cs,hc⟩:=h.own.isCells hb;rw[hn,h.r]at hc;cases hc
theorem zG.grow (hK:∀{M w M' w'},K M w→Le M w M' w'→K M' w') {Yg:Value} {xs':List α} (hT:T≠e) (h:zG A e T C K M w0 bo D st vo xs M1 w) (s:Step M1 w M2 w' (iX vo)) (ho:Own A e M2 w' w0.heap.size Yg xs'):
  (w'.heap[bo]? =some (.cells #[vo] T (0,0))∧M2 bo)∧∀{w2:World},Step M2 w' M2 w2 (fun k=>k=bo)→w2.heap[bo]? =some (.cells #[Yg] T (0,0))→zG A e T C K M w0 bo D st Yg xs' M2 w2:=by
 obtain⟨z1,z2⟩:=h.z
 have MZ:∀{b:Nat} {o:Obj},w.heap[b]? =some o→(∀cs fr,o≠ .cells cs e fr)→¬iX vo b:=fun {b o} hb eG hn=>by
  obtain⟨⟨C,h1,_⟩,_⟩:=h.own;rcases h1.2 with h3|⟨g,cap,cur,h3,h4,h5,_⟩
  ·unfold iX at hn;rw[h3.1]at hn;cases hn
  ·unfold iX at hn;rw[h3]at hn;cases hn;rw[hb]at h5;exact eG _ _ (bM h5)
 have fQ:=s.bF h.o (MZ h.o (fun cs fr hc=>by injection hc with _ h1 _;exact hT h1));have hr:=s.bF h.r (MZ h.r (fun cs fr hc=>by cases hc));have hd:=s.bF h.d (MZ h.d (fun cs fr hc=>by cases hc));have P4:=(s.mem _ (ak h.o)).2 h.mo;refine⟨⟨fQ,P4⟩,fun {w2} s2 hx=>⟨s2.lt (s.lt h.lt),(h.S.dh s h.own (bj _)).cu s2 (fun k (hk:k=bo)=>by omega),hx,P4,s2.bF hr (fun(hn:D+1=bo)=>by rw[hn,fQ]at hr;cases hr),(s.mem _ (ak h.r)).2 h.mr,s2.bF hd (fun(hn:D=bo)=>by rw[hn,fQ]at hd;cases hd),(s.mem _ (ak h.d)).2 h.md,ho.step s2 (fun b hb (hn:b=bo)=>ho.eL fQ hT (by rw[←hn];exact hb)),hK (hK h.k s.le) s2.le,h.z⟩⟩
end
theorem zG.told {α:Type} {A:RT α} {e T C:TypeId} {K:aA→World→Prop} {M M1 M5 M6:aA} {w0 w w4 w5 w6 w7 w8:World} {bo D:Nat} {st:Loop} {vo:Value} {xs:List α} (h1:C≠e) (h2:C≠T) (h:zG A e T C K M w0 bo D st vo xs M1 w) (s4:Step M1 w M1 w4 (fun k=>k=D+1)) (s5:Step M1 w4 M5 w5 aC) (s6:Step M5 w5 M6 w6 (iX vo)) (s7:Step M6 w6 M6 w7 (fun k=>k=bo)) (s8:Step M6 w7 M6 w8 (fun k=>k=D+1)):∃N,Step M1 w M6 w8 N∧∀k,N k→∀cs,w.heap[k]? ≠some (.cells cs C (0,0)):=by
 refine⟨fun b=>b=D+1∨iX vo b∨b=bo,((((s4.cc (fun b hb=> .inl hb) (fun b hb=>?_)).ay s5).trans s6 (fun b _ hb=> .inr (.inl hb))).trans s7 (fun b _ hb=> .inr (.inr hb))).trans s8 (fun b _ hb=> .inl hb),fun k hk cs hc=>?_⟩
 ·rcases hb with rfl|hb|rfl
  ·exact h.mr
  ·exact h.own.mut_ _ hb
  ·exact h.mo
 ·rcases hk with rfl|hk|rfl
  ·rw[h.r]at hc;cases hc
  ·obtain⟨Hg,xV⟩:=h.own.isCells hk;rw[hc]at xV;injection xV with xV;injection xV with _ xV;exact h1 xV
  ·rw[h.o]at hc;injection hc with hc;injection hc with _ hc;exact h2 hc.symm
theorem Rt {α:Type} {A:RT α} {e T C:TypeId} {K:aA→World→Prop} {M M1:aA} {w0 w:World} {bo:Nat} {st:Loop} (hK:∀{M w M' w'},K M w→Le M w M' w'→K M' w') (hM:Lt M1 w) (S:Step M w0 M1 w aC) (go:w.heap[bo]? =some (.cells #[.slice none 0 0] T (0,0))) (mo:M1 bo) (hk:K M1 w) (hbo:w0.heap.size≤bo):
  ∃M',zG A e T C K M w0 bo w.heap.size st (.slice none 0 0) [] M' ((w.alloc (.deferred (some []))).alloc (.loop st)):=by
 have sA:Step M1 w (ins M1 w.heap.size) (w.alloc (.deferred (some []))) aC:=(cU M1 w _).own (bj _) (by simp);have sB:Step (ins M1 w.heap.size) (w.alloc (.deferred (some []))) (ins (ins M1 w.heap.size) (w.heap.size+1)) ((w.alloc (.deferred (some []))).alloc (.loop st)) aC:=(cU _ _ _).own (by simp) (by simp);have hD:(w.alloc (.deferred (some []))).heap[w.heap.size]? =some (.deferred (some [])):=cq w _;have hR:((w.alloc (.deferred (some []))).alloc (.loop st)).heap[w.heap.size+1]? =some (.loop st):=by have:=cq (w.alloc (.deferred (some []))) (.loop st);rwa [World.size_alloc]at this
 exact⟨_,sB.lt (sA.lt hM),(S.ay sA).ay sB,sB.aI (sA.aI go),.inr (.inr mo),hR,.inl rfl,sB.aI hD,.inr (.inl rfl),ec _ _ _ _ _,hK (hK hk sA.le) sB.le,hbo,S.size⟩
theorem Dp {K:aA→World→Prop} {gf:FuncId} {lb:Array Value} {xs:List Int} {M:aA} (w0:World) (hM:Lt M w0) (he:Enters Tryz.prog gf) (hG:Bq K 216 gf lb xs) (hK:∀{M w M' w'},K M w→Le M w M' w'→K M' w') (hk:K M w0) (Jk:∀x∈xs,-9223372036854775808≤x∧x≤9223372036854775807) (uP:xs.length≤1099511627776):
  Spec Tryz.prog 121 #[.slice none 0 0,.func (.func gf) #[] lb] w0 (fun v w=>((RT.int .i64).sl).V M w xs v∧Step M w0 M w aC):=by
 have jL:=hM;refine mU (args:=[_,_]) (fn:=Tryz.f121) Tryz.func121 rfl (n:=13) Tryz.ntmps121 ?_;have S:Step M w0 M w0 aC:=(an _ _).cc (fun _ h=>h.elim) (fun _ h=>h.elim);refine aj (ah ?_);refine oT M rfl rfl (fun xD IY XL XM l4 zz=>?_);obtain⟨zA,tH⟩:∃M',M'=ins M xD:=⟨_,rfl⟩;rw[←tH]at zz;have nz:zA xD:=by rw[tH];exact .inl rfl
 change IY.heap[xD]? =some (.cells #[.slice none 0 0] _ _)at l4;replace hM:=zz.lt hM;have:=S.size;replace S:=S.ay zz;refine ai rfl rfl (ad (aj (aj (ah (ae rfl rfl (ad (a8 ?_)))))));refine T.range (gf:=gf) (lb:=lb) rfl he (fun rec mT=>?_);obtain⟨D,hD⟩:∃D,D=IY.heap.size:=⟨_,rfl⟩;obtain⟨Mr,h0⟩:=Rt (A:=RT.int .i64) (e:=3) (C:=216) (st:=rec .ready none) hK hM S l4 nz (hK hk S.le) (by omega);rw[←hD]at mT h0 ⊢;refine Spec.mono (hG (M:=Mr) (J:=fun i M' w=>∃vo,zG (RT.int .i64) 3 32 216 K M w0 xD D (rec .ready none) vo (xs.take i) M' w) (Jx:=fun _=>False) _ (fun i M' w ⟨vo,h⟩=>⟨h.lt,h.k⟩) (fun i M' w M2 w2 N ⟨vo,h⟩ s hN=>⟨vo,h.GR hK (by decide) (by decide) s (fun b hb=>⟨by have h1:=(hN b hb).1;have h2:=h.z.2;simp at h1;omega,(hN b hb).2⟩)⟩) (fun i M' wr x hJ hx=>?_) ⟨_,h0⟩) (fun _ w3 h3=>?_)
 ·obtain⟨vo,h⟩:=hJ;refine k5 (ps:=[7]) (vs:=[.int .i64 x]) mT h.r rfl (by decide) (ah (ai rfl rfl (ad ?_)));refine⟨rfl,h.r,?_⟩;have h4:=h.mE hK (st':=rec .busy none);have s4:Step M' wr M' (wr.putObj (D+1) (.loop (rec .busy none))) (fun k=>k=D+1):=dH h.mr;generalize wr.putObj (D+1) _=w4 at h4 s4 ⊢;refine a8 (ah (aE au rfl rfl rfl h4.o rfl (bu (v':=vo) rfl (ae rfl rfl ?_))));refine eE (A:=RT.int .i64) (hn:=by decide) (M:=M') au I3 (by decide) rfl rfl h4.lt (BF.2 ⟨rfl,Jk x (aM hx)⟩) (.inr ⟨rfl,rfl⟩) (fun u5 w5 Au s5=>?_);have h6:=h4.bh hK s5;have my:=(av.1 hx).1;refine cR (M:=M') (base:=w0.heap.size) au I3 rfl rfl rfl rfl h6.own Au (aq _ _) (by simp;omega) (by simp;omega) h6.S.size (fun v6 M6 w6 qQ s6=>?_);obtain⟨⟨Yh,Yi⟩,Hf⟩:=h6.grow hK (by decide) s6 qQ;refine bQ (M:=M6) nM rfl rfl Yh rfl (by obtain⟨_,_,he,_⟩:=qQ.isSlice;rw[he];rfl) Yi (fun w7 g7 s7=>?_);refine ad ?_;have h8:=(Hf s7 g7).mE hK (st':=rec .ready none);obtain⟨N,hN1,hN2⟩:=h.told (by decide) (by decide) s4 s5 s6 s7 (dH (o:= .loop (rec .ready none)) (Hf s7 g7).mr);exact⟨(Hf s7 g7).r,true,rfl,fun _=>⟨M6,N,⟨v6,by rw[cd,hx,cZ];exact h8⟩,hN1,hN2⟩,fun h=>by cases h⟩
 ·obtain⟨M',vo,h⟩:=h3.resolve_right id;left;refine⟨h.r,?_⟩;have h5:=h.mE hK (st':=rec .exhausted none);generalize w3.putObj (D+1) _=wE at h5 ⊢;refine aj (ah (aE au rfl rfl rfl h5.o rfl (bu (v':=vo) rfl (ai rfl rfl (ad (aJ ?_))))));have sE:Step M' wE M' (wE.putObj D (.deferred none)) (fun k=>k=D):=dH h5.md;have hz:=h5.z;have hS:=h5.S.cu sE (fun k (hk:k=D)=>by omega)
  have ho:=h5.own.step sE (fun b hb (hn:b=D)=>by
   obtain⟨cs,hc⟩:=h5.own.isCells hb;rw[hn,h5.d]at hc;cases hc)
  rw[bp (bj _)]at ho;exact Ag rfl rfl h5.d ⟨ho.close jL hS (by omega),hS.back⟩
theorem Br {K:aA→World→Prop} {gf:FuncId} {lb:Array Value} {xs:List Int} {M:aA} (w0:World) (hM:Lt M w0) (he:Enters Tryz.prog gf) (hG:Bq K 216 gf lb xs) (hK:∀{M w M' w'},K M w→Le M w M' w'→K M' w') (hk:K M w0) (Jk:∀x∈xs,-9223372036854775808≤x∧x≤9223372036854775807) (uP:xs.length≤1099511627776):
  Spec Tryz.prog 71 #[.func (.func gf) #[] lb] w0 (fun v w=>((RT.int .i64).sl).V M w xs v∧Step M w0 M w aC):=by
 refine aX (args:=[_]) (fn:=Tryz.f71) Tryz.func71 rfl (n:=5) Tryz.ntmps71 (aj (ah (ai rfl rfl (ad (aj (ah (ae rfl rfl ?_)))))));refine aP rfl rfl Yf (Dp _ hM he hG hK hk Jk uP) (fun r wc hc=>?_);obtain hc:=hc;refine ai rfl rfl (ad (aJ ?_));exact aO rfl rfl hc
theorem GS {α:Type} {p:α→Bool}:∀{xs:List α} {x:α},x∈xs.takeWhile p→p x=true
 |[],_,h=>by cases h
 |y::xs,x,h=>by
  rw[tT]at h
  split at h
  ·rename_i hp
   rcases dx.1 h with rfl|h
   ·exact hp
   ·exact GS h
  ·cases h
theorem GU {l:List Po} {sq:List Int} {t d:Int} (h:d∈mu l sq t):∃p∈l,p.1=d∧vQ sq d<t:=by
 have h1:=GS h;obtain⟨p,hp,rfl⟩:=cF.1 ((List.takeWhile_sublist _).subset h);exact⟨p,hp,rfl,by simpa using h1⟩
theorem Dq (l:List Po) (sq:List Int) (t:Int):(mu l sq t).length≤l.length:=by
 have:=(List.takeWhile_sublist (l:=l.map (·.1)) (fun d=>decide (vQ sq d<t))).length_le
 rwa [db]at this
theorem re {s:Se} {ls:List (List Po)} {e:Er} {v0 u:Value} {bs:Nat} (xC:xp s.2.2.1) (DK:s.2.2.2=ls.map gK) (I2:s.2.2.1.length=ls.length) (xU:I4 (lz s.2.2.1 ls (de e.1))) (h1:e.1.1.length≤140737488355328) (h2:e.1.2.length≤140737488355328):
  Bq (fun M w=>w.heap[bs]? =some (.cells #[v0] 25 (0,0))∧¬M bs∧ch RT.se M w v0 s∧ch RT.er M w u e) 216 122 #[.pointer (some ⟨bs,0,none⟩),u] (mu (lz s.2.2.1 ls (de e.1)) s.2.1 e.2):=
 fun w0 hk iz hy h0=>zF w0 xC DK I2 xU h1 h2 (fun i M w h=>⟨(hk i M w h).2.1,(hk i M w h).1,(hk i M w h).2.2.2.1,(hk i M w h).2.2.2.2⟩) iz hy h0
theorem nA {s:Se} {e:Er} {v0 u:Value} {bs:Nat} {M M':aA} {w w':World} (h:w.heap[bs]? =some (.cells #[v0] 25 (0,0))∧¬M bs∧ch RT.se M w v0 s∧ch RT.er M w u e) (l:Le M w M' w'):w'.heap[bs]? =some (.cells #[v0] 25 (0,0))∧¬M' bs∧ch RT.se M' w' v0 s∧ch RT.er M' w' u e:=
 have hb:=l bs (ak h.1) h.2.1
 ⟨hb.2.trans h.1,hb.1,h.2.2.1.le (by decide) l,h.2.2.2.le (by decide) l⟩
theorem Bs {M:aA} {s:Se} {ls:List (List Po)} {e:Er} {v0 ve:Value} (w0:World) (hM:Lt M w0) (hs:ch RT.se M w0 v0 s) (he:RT.er.V M w0 e ve) (xC:xp s.2.2.1) (DK:s.2.2.2=ls.map gK) (I2:s.2.2.1.length=ls.length) (xU:I4 (lz s.2.2.1 ls (de e.1))):
  Spec Tryz.prog 24 #[v0,ve] w0 (fun v w=>((RT.int .i64).sl).V M w (mu (lz s.2.2.1 ls (de e.1)) s.2.1 e.2) v∧Step M w0 M w aC):=by
 obtain⟨eve,⟨OD,DD⟩,DF⟩:=GP he;refine aX (args:=[_,_]) (fn:=Tryz.f24) Tryz.func24 rfl (n:=9) Tryz.ntmps24 ?_;have S:Step M w0 M w0 aC:=(an _ _).cc (fun _ h=>h.elim) (fun _ h=>h.elim);refine aj (ah ?_);refine kh (A:=RT.er) (a:=e) rfl rfl hM he rfl (fun u0 w1 cA s0 _=>?_);replace hs:=hs.le (by decide) s0.le;replace he:=he.le s0.le;replace hM:=s0.lt hM;have:=S.size;replace S:=S.ay s0;refine ai rfl rfl (ad (aj (ah (ae rfl rfl ?_))));refine cx (M:=M) (A:=RT.er) iD rfl tW (by decide) rfl rfl rfl cA (aq _ _) (fun vt DO=>?_);refine aP rfl rfl Ye (tJ _ hM hs DO) (fun r2 w2 hc=>?_);obtain⟨bs,u,rfl,Fw,hu,SI,s2⟩:=hc;have Yj:=nA (M:=M) (M':=M) ⟨Fw,fun h=>by have:=hM _ h;omega,hs.le (by decide) s2.le,hu⟩ (aq _ _);replace hs:=hs.le (by decide) s2.le;replace he:=he.le s2.le;replace cA:=cA.le (by decide) s2.le;replace hM:=s2.lt hM;have:=S.size;replace S:=S.ay s2;refine aP rfl rfl E71 (Br _ hM MY (re xC DK I2 xU OD DD) nA Yj (fun x hx=>by obtain⟨p,hp,rfl,_⟩:=GU hx;obtain⟨i,hi⟩:=bO.1 hp;have:=lP xU.may hi;omega) (by have:=Dq (lz s.2.2.1 ls (de e.1)) s.2.1 e.2;have:=xU.ln;omega)) (fun r3 w3 hc=>?_);obtain⟨M8,s3⟩:=hc;replace hs:=hs.le (by decide) s3.le;replace he:=he.le s3.le;replace cA:=cA.le (by decide) s3.le;replace hM:=s3.lt hM;have:=S.size;replace S:=S.ay s3;refine ai rfl rfl (ad (aJ ?_));exact aO rfl rfl ⟨M8,S⟩
end Go.K
namespace Go.K
open Go.Proofs
namespace TKBldJ
theorem N1:TI Tryz.prog 56 (.slice none 0 0) 1 24:=by unfold TI;kernel_rfl
theorem SK:TI Tryz.prog 58 (.agg #[(.slice none 0 0),(.slice none 0 0),(.slice none 0 0),(.slice none 0 0)]) 4 96:=by unfold TI;kernel_rfl
theorem jI:TI Tryz.prog 107 (.slice none 0 0) 1 24:=by unfold TI;kernel_rfl
theorem E27:Enters Tryz.prog 27:=enters Tryz.func27 rfl (by decide)
theorem E56:Enters Tryz.prog 56:=enters Tryz.func56 rfl (by decide)
theorem E57:Enters Tryz.prog 57:=enters Tryz.func57 rfl (by decide)
theorem E58:Enters Tryz.prog 58:=enters Tryz.func58 rfl (by decide)
theorem E59:Enters Tryz.prog 59:=enters Tryz.func59 rfl (by decide)
end TKBldJ
open TKBldJ
set_option maxRecDepth 10000
set_option maxHeartbeats 4000000 in
theorem tK {M:aA} {L:List En} {v0:Value} (w0:World) (hM:Lt M w0) (hv:(RT.en.sl).V M w0 L v0) (hl:∀e∈L,∀f∈e.1.2,f.1.length≤900000∧f.2.length≤900000) (hn:L.length≤100000) (fu:zx (-1) L=true):
  Spec Tryz.prog 15 #[v0] w0 (fun v w=>∃s,v= .tuple #[s,.int .i64 0]∧ch RT.se M w s (Gy (iw L))∧Step M w0 M w aC):=by
 have jL:=hM;have hF:=ny fu
 have Wk:(keysOf L).length≤500000000:=by
  have h1:=(jG L).nodup.length_le_of_subset (l₂:=gA L) (fun x hx=>kc.1 hx);have:=qo hF;omega
 have Io:∀k∈keysOf L,k.length≤43:=fun k hk=>qW hF k (kc.1 hk)
 refine aX (args:=[_]) (fn:=Tryz.f15) Tryz.func15 rfl (n:=63) Tryz.ntmps15 ?_;have S:Step M w0 M w0 aC:=(an _ _).cc (fun _ h=>h.elim) (fun _ h=>h.elim);refine aj (ah (ai rfl rfl (ai rfl rfl (ad (aj (ah ?_))))));refine aP rfl rfl E56 (F0 (Z:=fun k=>w0.heap.size≤k) (B:=w0.heap.size) _ hM (bj _) (fun k hk=>hk)) (fun r1 w1 hc=>?_);obtain⟨M1,b1,rfl,_,fo,s1⟩:=hc;replace fo:=fo.C9 (Z':=fun k=>w0.heap.size≤k∧k<w1.heap.size) (fun c hc dB=>⟨hc,dB⟩);replace hv:=hv.le s1.le;replace hM:=s1.lt hM;have:=S.size;replace S:=S.ay s1;refine ai rfl rfl (ad (aj (ah ?_)));refine eW M1 SK rfl (fun eX H2 UW UX yC sM=>?_);obtain⟨EO,sN⟩:∃M',M'=ins M1 eX:=⟨_,rfl⟩;rw[←sN]at sM;have sO:EO eX:=by rw[sN];exact .inl rfl
 change H2.heap[eX]? =some (.cells #[.slice none 0 0,.slice none 0 0,.slice none 0 0,.slice none 0 0] _ _)at yC;replace hv:=hv.le sM.le;replace fo:=fo.bh sM;replace hM:=sM.lt hM;have:=S.size;replace S:=S.ay sM;refine ad (aj (aj (ah (ae rfl rfl (bU gh rfl hv rfl (ae rfl rfl (ad (a8 ?_))))))));refine dC (σ:=Nat×Value×Value) (fun q=>[(4,.pointer (some ⟨b1,0,none⟩)),(5,.pointer (some ⟨eX,0,none⟩)),(12,v0),(13,.int .i64 (L.length:Int)),(14,.int .i64 (q.1:Int))]) (fun q w=>∃M' words,Lt M' w∧Step M w0 M' w aC∧(RT.en.sl).V M' w L v0∧lu (ZP w0.heap.size eX q.2.1 q.2.2) M' w w0.heap.size b1 (L.take q.1) words (kD (-1) (L.take q.1))∧w.heap[eX]? =some (.cells #[q.2.1,q.2.2,.slice none 0 0,.slice none 0 0] 58 (0,0))∧M' eX∧Own (RT.int .i64) 3 M' w w0.heap.size q.2.1 ((L.take q.1).map (·.1.1))∧Own (RT.int .i64) 3 M' w w0.heap.size q.2.2 ((L.take q.1).map (·.2))∧iE q.2.1 q.2.2∧0≤words∧words≤500*(q.1:Int)∧q.1≤L.length) (fun q=>L.length-q.1) (0,.slice none 0 0,.slice none 0 0) (.cons rfl (.cons rfl (.cons rfl (.cons rfl (.cons rfl .nil))))) ?_ ?_
 ·exact⟨_,0,hM,S,hv,fo.C9 (Z':=ZP w0.heap.size eX (.slice none 0 0) (.slice none 0 0)) (fun c hc dB=>⟨hc.1,(fun h=>by have:=hc.2;omega),(fun h=>by cases h),(fun h=>by cases h)⟩),yC,sO,ec _ _ _ _ _,ec _ _ _ _ _,iE.nil _,by omega,by omega,bG _⟩
 ·clear hM S hv fo;rintro⟨i,vi,vs⟩ w ⟨M2,words,hM,S,hv,fo,g2,cL,kR,kT,Il,Wl,hw2,hi⟩;dsimp only at fo g2 kR kT Il hw2 hi ⊢;refine aj (ah (cf rfl rfl rfl (ad (aj ?_))));refine bI rfl (fun c4=>?_) (fun c4=>?_)
  ·refine aU (aj (a8 (aj (ah ?_))));refine dq (M:=M2) gh yq rfl rfl rfl hv (aq _ _) (by omega) (fun u5 e CR Au=>?_);rw[az]at CR;obtain⟨Kc,Na⟩:=GH fu CR;have hem:=aM CR;refine cx (M:=M2) (A:=RT.en) cO rfl yq (by decide) rfl rfl rfl Au (aq _ _) (fun v5 n4=>?_);obtain⟨N6,Jj⟩:=MP n4;refine ov (A:=RT.en) (M:=M2) yq rfl rfl rfl rfl rfl (by assumption) (aq _ _) hM (fun WI afn qX zH afo=>?_);have:=ak g2;replace cL:=(zH.mem _ this).2 cL;replace g2:=zH.aI g2;replace hv:=hv.le zH.le;replace kR:=kR.bh zH;replace kT:=kT.bh zH;replace fo:=fo.bh zH;replace hM:=zH.lt hM;have:=S.size;replace S:=S.ay zH;refine ad (aj (aj (ah (ae rfl rfl ?_))));refine cx (M:=M2) (A:=RT.en) cO rfl yq (by decide) rfl rfl rfl qX (aq _ _) (fun v6 n0=>?_);refine aP rfl rfl E57 (F2 (Z:=ZP w0.heap.size eX vi vs) _ hM (fun k hk=>⟨by have:=S.size;omega,fun h=>by have:=ak g2;omega,fun h=>by have:=(kR.base k h).2;omega,fun h=>by have:=(kT.base k h).2;omega⟩) fo (by have:=S.size;omega) n0 (hl e hem) (fun x hx=>hF x (List.mem_of_mem_take hx)) (by simp;omega) (by omega)) (fun r6 w6 hc=>?_);obtain⟨M6,Gj,s6,rfl,_,KH⟩:=hc;replace fo:=KH Kc;have JU:(oR e).length≤500:=(hF e hem).many;refine bu (v':= .int .i64 0) (by rw[Kc]) ?_;replace kR:=kR.step s6 (fun c hc h=>h.1.2.2.1 hc);replace kT:=kT.step s6 (fun c hc h=>h.1.2.2.2 hc);replace cL:=(s6.mem _ (ak g2)).2 cL;replace g2:=s6.bF g2 (fun h=>h.1.2.1 rfl);replace hv:=hv.le s6.le;replace qX:=qX.le (by decide) s6.le;replace S:=S.cu s6 (fun k hk=>hk.1.1);replace hM:=Gj;rw[Na.symm]at fo;refine ai rfl rfl (ad (aj (ah (ae rfl rfl (eV rfl rfl rfl (ad (T.zX rfl ((fun h=>h rfl)) (aU ?_))))))));have SO:=g2;have Ru:=cL
   have XR:=hv;have Rv:=fo;have GV:=kR;have GW:=kT;have hMp:=hM;have Sp:=S;obtain⟨P6,Yk⟩:∃P6:Value→World→Prop,P6=fun v w'=>Own (RT.int .i64) 3 (nL v) w' w0.heap.size v ((L.take i).map (·.1.1)++[e.1.1])∧(∀c,v.ownBlock=some c→w6.heap.size≤c∨vi.ownBlock=some c):=⟨_,rfl⟩
   have h6:∀{v:Value} {w w':World},P6 v w→Step M6 w M6 w' aC→P6 v w':=fun {v w w'} h s=>by rw[Yk]at h ⊢;exact⟨h.1.J8 s (fun _ _ h=>h),h.2⟩
   apply T.Rf (M:=M6) [0,1,2,3,4,5,6,7,8,9,10,11,13,12,14,15,16] 13 12 37 (.pointer (some ⟨eX,0,none⟩)) [(6,iX vi)] [b8.eq (.pointer (some ⟨eX,0,none⟩)),b8.eq vi,b8.ptr RT.dc e.1,b8.ptr (RT.int .i64) e.1.1,b8.eq (.int .i64 e.1.1),b8.V ((RT.int .i64).sl) [e.1.1],(b8.mk' (fun v w=>P6 v w) (fun h s=>h6 h s)),b8.eq (.pointer (some ⟨eX,1,none⟩)),b8.eq vs,b8.ptr (RT.int .i64) e.2,b8.eq (.int .i64 e.2),b8.V ((RT.int .i64).sl) [e.2],b8.eq (.pointer (some ⟨eX,0,none⟩))] mixed
   ·simp+decide only[uU,p6,ib,List.map_nil,tR,tS,List.map_toArray,fq,mK,List.idxOf_cons,cond_true,cond_false,Nat.reduceBEq,Nat.reduceAdd,beq_self_eq_true];rfl
   ·rfl
   ·rfl
   ·rfl
   ·rfl
   ·rfl
   ·rfl
   ·rfl
   ·rfl
   ·rfl
   ·rfl
   ·rfl
   ·exact fun ρ w h=>Bh (size:=1) (o:=0) (o':=0) cz rfl rfl nM (by decide) (h (.tmp 5) _ rfl) w
   ·intro p hp b hb;simp only[dx,List.not_mem_nil,or_false]at hp;subst hp;exact kR.mut_ b hb
   ·exact fun p hp=>by
     simp only[dx,List.not_mem_nil,or_false]at hp;subst hp;show(6:Nat)≠12;decide
   ·exact rj.st (by exact⟨fun _ _ _ _=>trivial,⟨fun _ _ _ _=>trivial,⟨fun _ _ _ _=>trivial,⟨fun _ _ _ _=>trivial,⟨fun _ _ _ _=>trivial,⟨fun _ _ _ _=>trivial,⟨fun p hp b hb=>(by simp at hp),⟨fun _ _ _ _=>trivial,⟨fun _ _ _ _=>trivial,⟨fun _ _ _ _=>trivial,⟨fun _ _ _ _=>trivial,⟨fun _ _ _ _=>trivial,⟨fun _ _ _ _=>trivial,trivial⟩⟩⟩⟩⟩⟩⟩⟩⟩⟩⟩⟩⟩)
   intro wR9 sA9;have GX:=sA9 M6;have:=ak g2;replace cL:=(GX.mem _ this).2 cL;replace g2:=GX.aI g2;replace hv:=hv.le GX.le;replace qX:=qX.le (by decide) GX.le;replace kR:=kR.bh GX;replace kT:=kT.bh GX;replace fo:=fo.bh GX;replace hM:=GX.lt hM;have:=S.size;replace S:=S.ay GX;have Yl:=g2;have Rw:=kR;have afs:=kT;have hz6:=GX.size;refine⟨?_,?_⟩
   ·refine aF ?_ ?_
    ·intro wD E sD;replace sD:Step M6 _ M6 wD (iX vi):=sD;refine aS (o':=0) cz rfl rfl nM (by decide) rfl rfl ?_;exact ad ⟨rfl,rfl,_,rfl,rfl,an _ _⟩
    refine aF ?_ ?_
    ·intro wD E sD;replace sD:Step M6 _ M6 wD aC:=sD;refine aw (aE au rfl rfl rfl (sD.aI Yl) rfl ?_);exact ad ⟨rfl,rfl,_,rfl,rfl,an _ _⟩
    refine aF ?_ ?_
    ·intro wD E sD;replace sD:Step M6 _ M6 wD (iX vi):=sD;refine aH (M:=M6) (A:=RT.en) (B:=RT.dc) cO rfl rfl kL (by decide) PA rfl rfl (by decide) qX sD.le (fun uf xA=>?_);exact ad ⟨rfl,rfl,_,rfl,xA,an _ _⟩
    refine aF ?_ ?_
    ·intro wD E sD;replace sD:Step M6 _ M6 wD (iX vi):=sD;intro v2 wO;refine aH (M:=M6) (A:=RT.dc) (B:=RT.int .i64) aN rfl rfl I3 (by decide) Pz rfl rfl (by decide) (show ch RT.dc M6 wD v2 e.1 from wO) (aq _ _) (fun uf xA=>?_);exact ad ⟨rfl,rfl,_,rfl,xA,an _ _⟩
    refine aF ?_ ?_
    ·intro wD E sD;replace sD:Step M6 _ M6 wD (iX vi):=sD;intro v3 ur;refine cb (M:=M6) ar rfl rfl (show ch (RT.int .i64) M6 wD v3 e.1.1 from ur) (aq _ _) (fun ly=>?_);exact ad ⟨rfl,rfl,_,rfl,rfl,an _ _⟩
    refine aF ?_ ?_
    ·intro wD E sD;replace sD:Step M6 _ M6 wD aC:=sD;refine aw ?_;refine eE (A:=RT.int .i64) (hn:=by decide) (M:=M6) au I3 (by decide) rfl rfl (sD.lt hM) (gp N6) (.inr ⟨rfl,rfl⟩) (fun uS wS hS sS=>?_);exact ad ⟨rfl,rfl,_,rfl,hS,sS⟩
    refine aF ?_ ?_
    ·intro wD E sD;replace sD:Step M6 _ M6 wD aC:=sD;refine aw ?_;intro v5 n4;replace sD:Step M6 wR9 M6 wD aC:=sD;refine Rg.kq (M:=M6) (base:=w0.heap.size) au I3 rfl rfl rfl rfl (Rw.bh sD) (show((RT.int .i64).sl).V M6 wD [e.1.1] v5 from n4) (aq _ _) (by simp;omega) (by simp;omega) (by have:=sD.size;have:=S.size;omega) (fun vA wA hoA sA hFA=>?_);exact ad ⟨rfl,rfl,_,rfl,by show P6 vA wA;rw[Yk];exact⟨hoA.lone,fun c hc=>(hFA c hc).elim (fun h=> .inl (by have:=sD.size;omega)) .inr⟩,sA.back⟩
    refine aF ?_ ?_
    ·intro wD E sD;replace sD:Step M6 _ M6 wD (iX vi):=sD;refine aS (o':=1) cz rfl rfl nM (by decide) rfl rfl ?_;exact ad ⟨rfl,rfl,_,rfl,rfl,an _ _⟩
    refine aF ?_ ?_
    ·intro wD E sD;replace sD:Step M6 _ M6 wD (iX vi):=sD;refine aw (aE au rfl rfl rfl (sD.bF Yl (fun h=>Rw.eL Yl (by decide) h)) rfl ?_);exact ad ⟨rfl,rfl,_,rfl,rfl,an _ _⟩
    refine aF ?_ ?_
    ·intro wD E sD;replace sD:Step M6 _ M6 wD (iX vi):=sD;refine aH (M:=M6) (A:=RT.en) (B:=RT.int .i64) cO rfl rfl I3 (by decide) Sn rfl rfl (by decide) qX sD.le (fun uf xA=>?_);exact ad ⟨rfl,rfl,_,rfl,xA,an _ _⟩
    refine aF ?_ ?_
    ·intro wD E sD;replace sD:Step M6 _ M6 wD (iX vi):=sD;intro v9 H8;refine cb (M:=M6) ar rfl rfl (show ch (RT.int .i64) M6 wD v9 e.2 from H8) (aq _ _) (fun ly=>?_);exact ad ⟨rfl,rfl,_,rfl,rfl,an _ _⟩
    refine aF ?_ ?_
    ·intro wD E sD;replace sD:Step M6 _ M6 wD (iX vi):=sD;refine aw ?_;refine eE (A:=RT.int .i64) (hn:=by decide) (M:=M6) au I3 (by decide) rfl rfl (sD.lt hM) (gp Jj) (.inr ⟨rfl,rfl⟩) (fun uS wS hS sS=>?_);exact ad ⟨rfl,rfl,_,rfl,hS,sS⟩
    refine aF ?_ ?_
    ·intro wD E sD;replace sD:Step M6 _ M6 wD (iX vi):=sD;refine aw (aw ?_);intro v2 wO;intro v3 ur;refine aw ?_;intro v5 n4;intro v6 n0;refine aw (aw (aS (o':=0) cz rfl rfl nM (by decide) rfl rfl ?_));exact ad ⟨rfl,rfl,_,rfl,rfl,an _ _⟩
    exact bD.nil
   ·intro NV Cj;replace Cj:Step M6 _ M6 NV (iX vi):=Cj;refine aw (aw ?_);intro VY F4;intro afv abe;refine aw ?_;intro afw abf;intro xH Cn;refine aw (aw ?_);intro afx abg;refine aw ?_;intro Rx Bt;refine aw ?_;replace Cn:P6 xH NV:=Cn;rw[Yk]at Cn;obtain⟨qQ,Ym⟩:=Cn;replace Bt:((RT.int .i64).sl).V M6 NV [e.2] Rx:=Bt;have sX:Step M6 w6 M6 NV (iX vi):=(GX.cc (fun _ h=>h.elim) (fun b h=>GV.mut_ b h)).trans Cj (fun b _ h=>h);have Yn:=GW.step sX (fun c hc h=>Il c h hc);refine Rg.kq (M:=M6) (base:=w0.heap.size) au I3 rfl rfl rfl rfl Yn Bt (aq _ _) (by simp;omega) (by simp;omega) (by have:=Sp.size;have:=sX.size;omega) (fun v12 Hl Yo nP Ry=>?_)
    have FC:∀c,xH.ownBlock=some c→vs.ownBlock≠some c:=fun c hc hv=>by
     rcases Ym c hc with h|h
     ·have:=(GW.base c hv).2;omega
     ·exact Il c h hv
    have Rz:=qQ.J8 nP (fun c hc h=>FC c hc h)
    have RA:iE v12 xH:=fun c hc RB=>by
     rcases Ry c hc with h|h
     ·have:=(qQ.base c RB).2;omega
     ·exact FC c RB h
    have I1:∀c,v12.ownBlock=some c→w6.heap.size≤c∨vs.ownBlock=some c:=fun c hc=>(Ry c hc).elim (fun h=> .inl (by have:=sX.size;omega)) .inr
    have sZ:Step M6 w6 (jm M6 v12) Hl (fun k=>iX vi k∨iX vs k):=(sX.cc (fun _ h=> .inl h) (fun b h=>h.elim (GV.mut_ b) (GW.mut_ b))).trans nP (fun b _ h=> .inr h);obtain⟨RC,Nb⟩:∃M',M'=jm (jm M6 v12) xH:=⟨_,rfl⟩;have sW:Step M6 w6 RC Hl (fun k=>iX vi k∨iX vs k):=by rw[Nb];exact sZ.XF (fun c hc=>⟨(Rz.base c hc).2,(Ym c hc).elim .inl (fun h=> .inr (.inr (GV.mut_ c h)))⟩)
    have kR:=Rz.HO (M':=RC) (by rw[Nb];exact fun b hb=> .inl hb);have kT:=Yo.HO (M':=RC) (by rw[Nb];exact fun b hb=> .inr (.inl hb));have cL:=(sW.mem _ (ak SO)).2 Ru;have g2:=sW.bF SO (fun h=>h.elim (GV.eL SO (by decide)) (GW.eL SO (by decide)));have fo:=((Rv.C9 (Z':=fun k=>ZP w0.heap.size eX vi vs k∧ZP w0.heap.size eX xH v12 k) (fun c hc dB=>⟨hc,hc.1,hc.2.1,fun h=>(Ym c h).elim (fun h=>by omega) hc.2.2.1,fun h=>(I1 c h).elim (fun h=>by omega) hc.2.2.2⟩)).step sW (fun k hk hz=>hk.elim hz.1.2.2.1 hz.1.2.2.2)).C9 (Z':=ZP w0.heap.size eX xH v12) (fun c hc _=>hc.2);have hv:=XR.le sW.le;have S:=Sp.cu sW (fun k hk=>hk.elim (fun h=>(GV.base k h).1) (fun h=>(GW.base k h).1));have hM:=sW.lt hMp;refine ad ⟨rfl,rfl,fun h=>absurd rfl h,?_⟩;refine bQ (M:=RC) nM rfl rfl g2 rfl (by obtain⟨_,_,he,_⟩:=kR.isSlice;rw[he];rfl) cL (fun PS g14 jh=>?_);replace g14:PS.heap[eX]? =some (.cells #[xH,vs,.slice none 0 0,.slice none 0 0] 58 (0,0)):=g14;replace kR:=kR.step jh (fun c hc (h:c=eX)=>kR.eL g2 (by decide) (h▸hc));replace kT:=kT.step jh (fun c hc (h:c=eX)=>kT.eL g2 (by decide) (h▸hc));replace cL:=(jh.mem _ (ak g2)).2 cL;replace fo:=fo.step jh (fun k (hk:k=eX) hz=>hz.2.1 hk);replace hv:=hv.le jh.le;replace S:=S.cu jh (fun k (hk:k=eX)=>by rw[hk];omega);replace hM:=jh.lt hM;clear g2;have g2:=g14;refine ad ⟨rfl,rfl,fun h=>absurd rfl h,?_⟩;refine aS (o':=1) cz rfl rfl nM (by decide) rfl rfl ?_;refine ad ⟨rfl,rfl,fun h=>absurd rfl h,?_⟩;refine bQ (M:=RC) nM rfl rfl g2 rfl (by obtain⟨_,_,he,_⟩:=kT.isSlice;rw[he];rfl) cL (fun IL g16 tU=>?_);replace g16:IL.heap[eX]? =some (.cells #[xH,v12,.slice none 0 0,.slice none 0 0] 58 (0,0)):=g16;replace kR:=kR.step tU (fun c hc (h:c=eX)=>kR.eL g2 (by decide) (h▸hc));replace kT:=kT.step tU (fun c hc (h:c=eX)=>kT.eL g2 (by decide) (h▸hc));replace cL:=(tU.mem _ (ak g2)).2 cL
    replace fo:=fo.step tU (fun k (hk:k=eX) hz=>hz.2.1 hk);replace hv:=hv.le tU.le;replace S:=S.cu tU (fun k (hk:k=eX)=>by rw[hk];omega);replace hM:=tU.lt hM;clear g2;have g2:=g16;refine ad ⟨rfl,rfl,fun h=>absurd rfl h,?_⟩;refine qA (ah (bA rfl rfl rfl (by omega) (ae rfl rfl (ad ?_))));have et:L.take (i+1)=L.take i++[e]:=by rw[cd,CR,cZ]
    rw[et]at fo;refine⟨rfl,(i+1,xH,v12),(.cons rfl (.cons rfl (.cons rfl (.cons rfl (.cons rfl .nil))))),?_,?_⟩
    ·exact⟨_,_,hM,S,hv,by rw[et];exact fo,g2,cL,by rw[et,jB];exact kR,by rw[et,jB];exact kT,RA.symm,by omega,by dsimp only;omega,by dsimp only;omega⟩
    ·dsimp only;omega
  ·refine cM (aj (ah ?_));have hLi:L.take i=L:=bp (by omega);rw[hLi]at fo kR kT;refine ae rfl rfl ?_;refine aP rfl rfl E58 (A3 _ hM fo hF (by omega)) (fun rk W2 hc=>?_);obtain⟨vU,xT⟩:=hc;have:=ak g2;replace cL:=(xT.mem _ this).2 cL;replace g2:=xT.aI g2;replace hv:=hv.le xT.le;replace kR:=kR.bh xT;replace kT:=kT.bh xT;replace fo:=fo.bh xT;replace hM:=xT.lt hM;have:=S.size;replace S:=S.ay xT;refine aS (o':=2) cz rfl rfl Hj (by decide) rfl rfl ?_;refine bQ (M:=M2) Hj rfl rfl g2 rfl (j1 vU rfl rfl) cL (fun yO cn ep=>?_);change yO.heap[_]? =some (Obj.cells #[vi,vs,rk,.slice none 0 0] _ _)at cn;have:=ak g2;replace cL:=(ep.mem _ this).2 cL;replace hv:=hv.le ep.le;replace vU:=vU.le ep.le;replace kR:=kR.step ep (fun c hc (h:c=eX)=>kR.eL g2 (by decide) (h▸hc));replace kT:=kT.step ep (fun c hc (h:c=eX)=>kT.eL g2 (by decide) (h▸hc));replace fo:=fo.stepT ep (by first|exact fun k hk=>by(obtain⟨cs,hc⟩:=oQ.isCells hk;exact⟨cs,_,hc,by decide,by decide,by decide⟩)|exact fun k (hk:k=eX)=>⟨_,_,hk▸g2,by decide,by decide,by decide⟩);replace hM:=ep.lt hM;have:=S.size;replace S:=S.trans ep (fun k hk h=>by have h:_=_:=h;subst h;first|(exfalso;omega)|(show _≤_;omega)|exact⟨by first|omega|assumption,(S.mem _ hk).1 ((ep.mem _ (ak g2)).1 cL)⟩|exact .inl rfl|exact .inr rfl|exact .inr (.inl rfl)|exact .inr (.inr rfl)|exact rfl);have Fi:=cn;clear g2;have g2:=Fi;clear Fi;refine ad (aj (aj (ah (aS (o':=2) cz rfl rfl Hj (by decide) rfl rfl (aE bg rfl rfl rfl g2 rfl (bu (v':=rk) rfl (bU bg rfl vU rfl (ae rfl rfl (ad (a8 ?_))))))))));refine dC (σ:=Nat×Value) (fun q=>[(4,.pointer (some ⟨b1,0,none⟩)),(5,.pointer (some ⟨eX,0,none⟩)),(44,rk),(45,.int .i64 ((keysOf L).length:Int)),(46,.int .i64 (q.1:Int))]) (fun q w=>∃M',Lt M' w∧Step M w0 M' w aC∧lu (ZP w0.heap.size eX vi vs) M' w w0.heap.size b1 L words (kD (-1) L)∧w.heap[eX]? =some (.cells #[vi,vs,rk,q.2] 58 (0,0))∧M' eX∧Own (RT.int .i64) 3 M' w w0.heap.size vi (L.map (·.1.1))∧Own (RT.int .i64) 3 M' w w0.heap.size vs (L.map (·.2))∧Own ((RT.po).sl) 107 M' w w0.heap.size q.2 (((keysOf L).take q.1).map (pk L))∧(RT.str.sl).V M' w (keysOf L) rk∧q.1≤(keysOf L).length) (fun q=>(keysOf L).length-q.1) (0,.slice none 0 0) (.cons rfl (.cons rfl (.cons rfl (.cons rfl (.cons rfl .nil))))) ?_ ?_
   ·exact⟨_,hM,S,fo,g2,cL,kR,kT,ec _ _ _ _ _,vU,bG _⟩
   ·clear hM S fo g2 cL kR kT vU hv;rintro⟨i3,vl⟩ w ⟨M3,hM,S,fo,g2,cL,kR,kT,oQ,vU,Tc⟩;dsimp only at g2 oQ Tc ⊢;refine aj (ah (cf rfl rfl rfl (ad (aj ?_))));refine bI rfl (fun E3=>?_) (fun E3=>?_)
    ·refine aU (aj (a8 (aj (ah ?_))));refine dq (M:=M3) bg I9 rfl rfl rfl vU (aq _ _) (by omega) (fun u14 k Nc Yp=>?_);rw[az]at Nc;refine cg (M:=M3) aD rfl rfl rfl rfl rfl Yp (aq _ _) (fun vk hvk=>?_);obtain rfl:=fx hvk;refine ai rfl rfl (ad ?_);apply T.nV 4 [0,1] 2 aC mixed rfl rfl rfl rfl;intro Mp Gn;have mG:=Gn M3;have:=ak g2;replace cL:=(mG.mem _ this).2 cL;replace g2:=mG.aI g2;replace vU:=vU.le mG.le;replace kR:=kR.bh mG;replace kT:=kT.bh mG;replace oQ:=oQ.bh mG;replace fo:=fo.bh mG;replace hM:=mG.lt hM;have:=S.size;replace S:=S.ay mG;refine aS (o':=3) cz rfl rfl N1 (by decide) rfl rfl ?_;refine ad ⟨rfl,rfl,rfl,?_⟩;refine aE Tryz.underlying56 rfl rfl rfl (by first|assumption|exact bV mG (by assumption)) rfl ?_;refine ad ⟨rfl,rfl,rfl,?_⟩;refine ae rfl rfl ?_;refine ad ⟨rfl,rfl,rfl,?_⟩;refine ae rfl rfl ?_;refine ad ⟨rfl,rfl,rfl,?_⟩;refine fy ?_;refine⟨iA ⟨jA cz rfl N1 (by decide),⟨fJ rfl g2 (fun h=>h),trivial⟩⟩,?_⟩;have kp:=km aC Mp;refine aP rfl rfl E59 (A4 (k:=k) _ hM fo hF (by omega) (by have:=Io k (aM Nc);omega)) (fun r15 PH hc=>?_);obtain⟨F6,xg⟩:=hc;have:=ak g2;replace cL:=(xg.mem _ this).2 cL;replace g2:=xg.aI g2;replace vU:=vU.le xg.le;replace kR:=kR.bh xg;replace kT:=kT.bh xg;replace oQ:=oQ.bh xg;replace fo:=fo.bh xg;replace hM:=xg.lt hM;have:=S.size;replace S:=S.ay xg;refine(fun(kp:eg _ _ _)=>ad ⟨rfl,rfl,fun _=>kp,?_⟩) (by first|exact kp|exact kp.pX (by assumption)|exact kp.goN (by assumption)|exact kp.go (by assumption) (fun _ _ h=>by first|exact h|exact h.elim));refine eE (A:=((RT.po).sl)) (hn:=by decide) (M:=M3) Tryz.underlying56 jI (by decide) rfl rfl hM (F6) (.inr ⟨rfl,rfl⟩) (fun RD Gc l6 fW=>?_)
     have:=ak g2;replace cL:=(fW.mem _ this).2 cL;replace g2:=fW.aI g2;replace vU:=vU.le fW.le;replace F6:=F6.le fW.le;replace kR:=kR.bh fW;replace kT:=kT.bh fW;replace oQ:=oQ.bh fW;replace fo:=fo.bh fW;replace hM:=fW.lt hM;have:=S.size;replace S:=S.ay fW;refine(fun(kp:eg _ _ _)=>ad ⟨rfl,rfl,fun _=>kp,?_⟩) (by first|exact kp|exact kp.pX (by assumption)|exact kp.goN (by assumption)|exact kp.go (by assumption) (fun _ _ h=>by first|exact h|exact h.elim));refine cR (M:=M3) (base:=w0.heap.size) Tryz.underlying56 jI rfl rfl rfl rfl oQ l6 (aq _ _) (by simp;omega) (by simp;omega) (S.size) (fun Co GY RE Bu kg=>?_);have:=ak g2;replace cL:=(kg.mem _ this).2 cL;replace g2:=kg.bF g2 (fun h=>by first|exact oQ.dD g2 h|exact oQ.eL g2 (by decide) h|(have:=(oQ.base _ h).1;omega));replace vU:=vU.le kg.le;replace F6:=F6.le kg.le;replace l6:=l6.le kg.le;replace kR:=kR.step kg (fun b h1 h2=>kR.ir oQ (by decide) h1 h2);replace kT:=kT.step kg (fun b h1 h2=>kT.ir oQ (by decide) h1 h2);replace fo:=fo.stepT kg (by first|exact fun k hk=>by(obtain⟨cs,hc⟩:=oQ.isCells hk;exact⟨cs,_,hc,by decide,by decide,by decide⟩)|exact fun k (hk:k=eX)=>⟨_,_,hk▸g2,by decide,by decide,by decide⟩);replace hM:=kg.lt hM;have:=S.size;replace S:=S.dh kg oQ (bj _);replace oQ:=Bu;refine ad ⟨rfl,rfl,fun h=>absurd rfl h,?_⟩;refine aS (o':=3) cz rfl rfl N1 (by decide) rfl rfl ?_;refine ad ⟨rfl,rfl,fun h=>absurd rfl h,?_⟩;refine bQ (M:=GY) N1 rfl rfl g2 rfl (by obtain⟨_,_,he,_⟩:=oQ.isSlice;rw[he];rfl) cL (fun RF Kd nB=>?_);change RF.heap[_]? =some (Obj.cells #[vi,vs,rk,Co] _ _)at Kd;have:=ak g2;replace cL:=(nB.mem _ this).2 cL;replace vU:=vU.le nB.le;replace F6:=F6.le nB.le;replace l6:=l6.le nB.le;replace kR:=kR.step nB (fun c hc (h:c=eX)=>kR.eL g2 (by decide) (h▸hc))
     replace kT:=kT.step nB (fun c hc (h:c=eX)=>kT.eL g2 (by decide) (h▸hc));replace oQ:=oQ.step nB (fun c hc (h:c=eX)=>oQ.eL g2 (by decide) (h▸hc));replace fo:=fo.stepT nB (by first|exact fun k hk=>by(obtain⟨cs,hc⟩:=oQ.isCells hk;exact⟨cs,_,hc,by decide,by decide,by decide⟩)|exact fun k (hk:k=eX)=>⟨_,_,hk▸g2,by decide,by decide,by decide⟩);replace hM:=nB.lt hM;have:=S.size;replace S:=S.trans nB (fun k hk h=>by have h:_=_:=h;subst h;first|(exfalso;omega)|(show _≤_;omega)|exact⟨by first|omega|assumption,(S.mem _ hk).1 ((nB.mem _ (ak g2)).1 cL)⟩|exact .inl rfl|exact .inr rfl|exact .inr (.inl rfl)|exact .inr (.inr rfl)|exact rfl);have Fi:=Kd;clear g2;have g2:=Fi;clear Fi;refine ad ⟨rfl,rfl,fun h=>absurd rfl h,?_⟩;refine qA (ah (bA rfl rfl rfl (by omega) (ae rfl rfl (ad ?_))));refine⟨rfl,(i3+1,Co),(.cons rfl (.cons rfl (.cons rfl (.cons rfl (.cons rfl .nil))))),?_,?_⟩
     ·exact⟨_,hM,S,fo,g2,cL,kR,kT,by rw[cd,Nc,cZ,jB];exact oQ,vU,by dsimp only;omega⟩
     ·dsimp only;omega
    ·refine cM (aj (ah (ia (vs:=[vi,vs,rk,vl]) cz rfl SK rfl rfl rfl g2 ?_)));rw[bp (by omega)]at oQ;have Qq:RT.pa.V M _ (iw L) _:=VH (x:=iw L) (kR.close jL S (by show(L.map _).length≤_;rw[db];omega)) (kT.close jL S (by show(L.map _).length≤_;rw[db];omega)) (vU.le (Le.close jL S)) (oQ.close jL S (by show((keysOf L).map _).length≤_;rw[db];omega));replace S:=S.back;replace hM:=S.lt jL;refine aP rfl rfl E27 (Bf (p:=iw L) _ hM Qq (IV hF (by omega))) (fun r17 w17 hc=>?_);obtain⟨Xj,RG,_⟩:=hc;obtain⟨sg,rfl,wT⟩:=RG (MO fu (by omega));replace S:=S.ay Xj;refine bP rfl rfl rfl (bP rfl rfl rfl (ai rfl rfl (ai rfl rfl (ad (aJ ?_)))));exact eH rfl rfl rfl ⟨sg,rfl,wT,S⟩
end Go.K
namespace Go.K
open Go.Proofs
namespace TKSegF
theorem RH:placesOf Tryz.prog 127=[(0,1),(1,1)].map some:=by kernel_rfl
theorem N7:Enters Tryz.prog 15:=enters Tryz.func15 rfl (by decide)
theorem Yq:Enters Tryz.prog 67:=enters Tryz.func67 rfl (by decide)
theorem SM:Enters Tryz.prog 70:=enters Tryz.func70 rfl (by decide)
end TKSegF
open TKSegF
set_option maxRecDepth 10000
theorem qu {id:Int}:∀(fs:List Fd) (i:Nat) (out:List Fd),kn (id,out)=0→kn (id,lj id i out fs)=0
 |[],_,_,h=>h
 |x::fs,i,out,h=>by
  unfold lj
  split
  ·split
   ·rename_i h1;exact qu fs _ _ h1
   ·exact qu fs _ _ h
  ·exact h
theorem l7 {id:Int}:∀(fs:List Fd) (i:Nat) (out:List Fd),oI out→oI (lj id i out fs)
 |[],_,_,h=>h
 |x::fs,i,out,h=>by
  unfold lj
  split
  ·rename_i hi
   split
   ·exact l7 fs _ _ (h.snoc (tc x hi))
   ·exact l7 fs _ _ h
  ·exact h
theorem Dr (d:Dc):kn (mh d)=0:=qu d.2 0 [] rfl
theorem zI (d:Dc):oI (mh d).2:=l7 d.2 0 [] (fun x h=>by cases h)
theorem zJ {e:En}:∀{L:List En} {last:Int},zx last (L++[e])=(zx last L&&decide (jH (kD last L) e=0))
 |[],last=>by show(decide (jH last e=0)&&true)=(true&&decide (jH last e=0));rw[ie,dw]
 |x::L,last=>by rw[iG];show(decide (jH last x=0)&&zx x.2 (L++[e]))=(decide (jH last x=0)&&zx x.2 L&&decide (jH (kD x.2 L) e=0));rw[zJ (L:=L),Bool.and_assoc]
theorem tL {e:En}:∀{L:List En} {last:Int},kD last (L++[e])=e.2
 |[],_=>rfl
 |x::L,last=>by simp only[iG,kD];exact tL
theorem zK (l:List Dc) {a s:Int} (ha:0≤a) (hs:1≤s):∀k,zx (-1) (fN l a s k)=true∧kD (-1) (fN l a s k)<a+s*(k:Int)
 |0=>⟨rfl,by show(-1:Int)<_;simp;omega⟩
 |k+1=>by
  obtain⟨h1,h2⟩:=zK l ha hs k;have e1:a+s*((k+1:Nat):Int)=a+s*(k:Int)+s:=by rw[Int.natCast_add,Int.mul_add];simp;omega
  cases h:l[k]? with
  |none=>rw[tg (List.getElem?_eq_none_iff.1 h),e1];exact⟨h1,by omega⟩
  |some d=>
   rw[tf h,zJ,tL,h1,e1]
   have:jH (kD (-1) (fN l a s k)) (mh d,a+s*(k:Int))=0:=by
    unfold jH;rw[if_neg (fun h=>h (Dr d)),if_neg (by show¬(a+s*(k:Int)≤_);omega)]
   exact⟨by rw[this];rfl,by show a+s*(k:Int)<_;omega⟩
theorem vV {l:List Dc} {a s:Int}:∀{k:Nat} {e:En},e∈fN l a s k→∃d,e.1=mh d
 |0,e,h=>by cases h
 |k+1,e,h=>by
  rw[fN]at h;rcases dm.1 h with h|h
  ·exact vV h
  ·split at h
   ·rename_i d _;rw[cE.1 h];exact⟨d,rfl⟩
   ·cases h
theorem Bv {l:List Dc} {a s:Int} {k:Nat}:∀e∈fN l a s k,∀f∈e.1.2,f.1.length≤900000∧f.2.length≤900000:=fun e he f hf=>by
 obtain⟨d,hd⟩:=vV he;rw[hd]at hf;have:=zI d f hf;omega
theorem zL:words [97]=[[97]]:=by
 have h:dW [97]=[97]:=by rw[lT (by simp)];simp[dec,yp,gY,gR,nF]
 unfold words;rw[h];simp[eI];rfl
theorem GZ:b5 [([116],[97])]=[(([116],[97]),0)]:=by
 show fV ([116],[97])++[]=_;unfold fV;rw[zL];rfl
end Go.K
namespace Go.K
open Go.Proofs
namespace TKErsD
theorem tW:TI Tryz.prog 51 (.agg #[(.string ⟨#[]⟩),(.string ⟨#[]⟩),(.int .i64 0)]) 3 40:=by unfold TI;kernel_rfl
theorem SP:placesOf Tryz.prog 51=[(0,2),(2,1)].map some:=by kernel_rfl
theorem RH:placesOf Tryz.prog 127=[(0,1),(1,1)].map some:=by kernel_rfl
theorem N7:Enters Tryz.prog 15:=enters Tryz.func15 rfl (by decide)
theorem E24:Enters Tryz.prog 24:=enters Tryz.func24 rfl (by decide)
end TKErsD
open TKErsD
set_option maxRecDepth 10000
abbrev zM:List En:=[((0,[([116],[97])]),1),((0,[([116],[97])]),5)]
theorem G0:zx (-1) zM=true:=by
 have h:∀a b:Int,a<b→jH a ((0,[([116],[97])]),b)=0:=by
  intro a b hab
  have hm:kn (0,[([116],[97])])=0:=by
   unfold kn;simp only[ta,zL];decide
  unfold jH;rw[if_neg (fun h=>h hm),if_neg (by show¬b≤a;omega)]
 show(decide (jH (-1) ((0,[([116],[97])]),1)=0)&&(decide (jH 1 ((0,[([116],[97])]),5)=0)&&true))=true;rw[h (-1) 1 (by decide),h 1 5 (by decide)];rfl
theorem I6:I4 (lz (Gy (iw zM)).2.2.1 ((keysOf zM).map (pk zM)) (de ([116],[97]))):=by
 show I4 (lz (keysOf zM) _ _);rw[Bk];exact GQ (ny G0) (by decide) _
theorem Nd:(pk zM (de ([116],[97]))).map (fun p:Po=>p.1)=[0,1]:=by
 show(AU 0 (b5 [([116],[97])]) (de ([116],[97]))++(AU 1 (b5 [([116],[97])]) (de ([116],[97]))++[])).map (fun p:Po=>p.1)=_;rw[GZ];decide
theorem Dt:mu (lz (Gy (iw zM)).2.2.1 ((keysOf zM).map (pk zM)) (de ([116],[97]))) (Gy (iw zM)).2.1 3=[0]:=by
 show mu (lz (keysOf zM) _ _) [1,5] 3=[0];rw[Bk];unfold mu;rw[Nd];decide
theorem xI {M:aA} (w0:World) (hM:Lt M w0):
  Spec Tryz.prog 26 #[] w0 (fun v w=>v= .bool true∧Step M w0 M w aC):=by
 refine aX (args:=[]) (fn:=Tryz.f26) Tryz.func26 rfl (n:=32) Tryz.ntmps26 ?_;have S:Step M w0 M w0 aC:=(an _ _).cc (fun _ h=>h.elim) (fun _ h=>h.elim);refine aj (ah (ai rfl rfl (ad (aj (ah (dZ (places:=[(0,1),(1,1)]) bT gZ RH rfl ⟨_,_,rfl,rfl,_,_,rfl,rfl,rfl⟩ (out:=[_,_]) ⟨0,[_],rfl,rfl,by simp[Value.cells],1,[_],rfl,rfl,by simp[Value.cells],rfl⟩ ?_))))));refine eE (A:=RT.fd) (hn:=by decide) (M:=M) aV gZ (by decide) rfl rfl hM (xi (t:=([116],[97])) (by decide) (by decide)) (.inl rfl) (fun Yr Ig og oM=>?_);replace hM:=oM.lt hM;have:=S.size;replace S:=S.ay oM;refine dZ (places:=[(0,1),(1,1)]) aN kL OM rfl ⟨_,_,rfl,rfl,rfl⟩ (out:=[.int .i64 0,_]) ⟨1,[_],rfl,ij og,by simp[Value.cells],rfl⟩ ?_;have Jp:RT.dc.V M _ (0,[([116],[97])]) (.agg #[.int .i64 0,Yr]):=dY (gp (by decide)) og rfl rfl rfl rfl;refine ov (A:=RT.dc) (M:=M) kL rfl rfl rfl rfl rfl (by assumption) (aq _ _) hM (fun EJ xc fA s1_3 afA=>?_);replace og:=og.le s1_3.le;replace hM:=s1_3.lt hM;have:=S.size;replace S:=S.ay s1_3;refine ad (aj (ah ?_));refine cx (M:=M) (A:=RT.dc) aN rfl kL (by decide) rfl rfl rfl fA (aq _ _) (fun v Ce=>?_);obtain⟨H2,rfl⟩:=xe Ce;refine dZ (places:=[(0,2),(2,1)]) cO yq Sh rfl ⟨_,_,rfl,rfl,_,_,rfl,rfl,rfl⟩ (out:=[_,_,_]) ⟨0,[_,_],rfl,rfl,by simp[Value.cells],2,[_],rfl,rfl,by simp[Value.cells],rfl⟩ ?_;refine cx (M:=M) (A:=RT.dc) aN rfl kL (by decide) rfl rfl rfl fA (aq _ _) (fun v Ke=>?_);obtain⟨Q8,rfl⟩:=xe Ke;refine dZ (places:=[(0,2),(2,1)]) cO yq Sh rfl ⟨_,_,rfl,rfl,_,_,rfl,rfl,rfl⟩ (out:=[_,_,_]) ⟨0,[_,_],rfl,rfl,by simp[Value.cells],2,[_],rfl,rfl,by simp[Value.cells],rfl⟩ ?_;refine Rg.Od (A:=RT.en) (hn:=by decide) (M:=M) (xs:=zM) gh yq rfl (by decide) rfl ⟨_,_,_,rfl,rfl,rfl,BX Ce (by decide),_,_,_,rfl,rfl,rfl,BX Ke (by decide),rfl⟩ rfl hM (.inl rfl) (by decide) (fun u4 w4 xS s4=>?_)
 replace og:=og.le s4.le;replace fA:=fA.le (by decide) s4.le;replace hM:=s4.lt hM;have:=S.size;replace S:=S.ay s4;refine aP rfl rfl N7 (tK (L:=zM) _ hM xS (fun e he f hf=>by simp only[zM,dx,List.mem_nil_iff,or_false]at he;rcases he with rfl|rfl<;>(simp only[cE]at hf;subst hf;decide)) (by decide) G0) (fun r5 w5 hc=>?_);obtain⟨sb,rfl,SQ,s5⟩:=hc;obtain⟨ab,rfl⟩:=SQ.jb;replace og:=og.le s5.le;replace fA:=fA.le (by decide) s5.le;replace xS:=xS.le s5.le;replace hM:=s5.lt hM;have:=S.size;replace S:=S.ay s5;refine ae rfl rfl (bP rfl rfl rfl (bP rfl rfl rfl (ai rfl rfl (ai rfl rfl (ad (aj (aj (ah (ae rfl rfl (Rg.so Tryz.underlying25 rfl rfl rfl (ad ?_)))))))))));refine T.zX rfl ((by simp)) (aU (aj (ah (ae rfl rfl (dZ (places:=[(0,1),(1,1)]) b9 qM Zd rfl ⟨_,_,rfl,rfl,_,_,rfl,rfl,rfl⟩ (out:=[_,_]) ⟨0,[_],rfl,rfl,by simp[Value.cells],1,[_],rfl,rfl,by simp[Value.cells],rfl⟩ (dZ (places:=[(0,2),(2,1)]) iD tW SP rfl ⟨_,_,rfl,rfl,_,_,rfl,rfl,rfl⟩ (out:=[_,_,_]) ⟨0,[_,_],rfl,rfl,by simp[Value.cells],2,[_],rfl,rfl,by simp[Value.cells],rfl⟩ ?_))))));refine aP rfl rfl E24 (Bs (e:=(([116],[97]),3)) (ls:=(keysOf zM).map (pk zM)) _ hM SQ (Ka ⟨by decide,by decide⟩ (by decide)) (jG zM) rfl (by rw[db];rfl) I6) (fun r3 w3 hc=>?_);obtain⟨M8,s3⟩:=hc;rw[Dt]at M8;replace og:=og.le s3.le;replace fA:=fA.le (by decide) s3.le;replace xS:=xS.le s3.le;replace SQ:=SQ.le (by decide) s3.le;replace hM:=s3.lt hM;have:=S.size;replace S:=S.ay s3;refine ai rfl rfl (ad (aj (ah (ae rfl rfl (bU au rfl M8 rfl (Rg.zY rfl rfl rfl (ae rfl rfl (Rg.Jh (g:=26) rfl (rfl) (al rfl rfl (ae rfl rfl (al rfl rfl ?_)))))))))));refine dq (M:=M) au I3 rfl rfl rfl M8 (aq _ _) (by decide) (fun u9 e Hm LI=>?_)
 refine al rfl rfl ?_;refine cb (M:=M) ar rfl rfl LI (aq _ _) (fun ly=>?_);obtain rfl:e=0:=by simpa using Hm.symm
 refine al rfl rfl (Rg.zY rfl rfl rfl (aQ rfl rfl rfl (ai rfl rfl (ad (aJ ?_)))));exact aO rfl rfl ⟨rfl,S⟩
end Go.K
namespace Go.K
variable {P:Program} {r:Option Nat} {n:Nat} {L:Sl} {ds:List Deferred} {w:World} {K:Kt} {ops:Array Oper} {rest:List Oper} {d:Nat} {x y:Operand} {ty:TypeId} {pos:String} {af:Array Edge} {α:Type} {A:RT α}
def I7 {α:Type} (A:RT α):Prop:=∀(M M':aA) (w w':World) (x:α) (vs:List Value),A.R M w x vs→A.R M' w' x vs
theorem eo.RI {M M':aA} {w w':World} (hA:I7 A):∀{xs:List α} {C:List Value},eo A M w xs C→eo A M' w' xs C
 |[],_,h=>h
 |_::_,_,⟨vs,rest,h1,h2,h3⟩=>⟨vs,rest,h1,hA _ _ _ _ _ _ h2,eo.RI hA h3⟩
theorem Own.RJ {e:TypeId} {M M2:aA} {w':World} {base:Nat} {v:Value} {xs:List α} (hA:I7 A) (h:Own A e M2 w' base v xs) (s:Step M w M2 w' aC) (hb:w.heap.size≤base) (M1:aA):Own A e (jm M1 v) w' base v xs∧Step M1 w (jm M1 v) w' aC:=by
 have DB:=h.base;obtain⟨⟨C,hr,ha⟩,hm⟩:=h;refine⟨⟨⟨C,hr,ha.RI hA⟩,fun b hb=> .inl hb⟩,fun hl b xK=>?_,s.os,s.tape,s.output,s.size,fun b xK=>⟨fun h=>h.resolve_left fun e=>by have:=(DB b e).1;omega,.inr⟩,s.same,fun b h=>h.elim⟩;rcases xK with h|h
 ·exact(DB b h).2
 ·exact mP (hl b h) s.size
theorem Own.Nf {hn:0<A.n} {e:TypeId} {M M1 M2:aA} {w':World} {base:Nat} {v:Value} {xs:List α} (hA:I7 A) (h:Own A e M2 w' base v xs) (s:Step M w M2 w' aC) (hb:w.heap.size≤base) (hM:Lt M1 w) (hlen:xs.length≤140737488355328):(A.sl hn).V M1 w' xs v∧Step M1 w M1 w' aC:=by
 have DB:=h.base;obtain⟨h1,h2⟩:=h.RJ hA s hb M1;exact⟨h1.sl (fun b _ JN=>⟨fun h=>JN (.inr h),rfl⟩) (fun b o8 hM'=>by have h3:=(DB b o8).1;have h4:=hM b hM';omega) hlen,s.any M1⟩
end Go.K
namespace Go.K
open Go.Proofs
namespace TKQueA
theorem tW:TI Tryz.prog 51 (.agg #[(.string ⟨#[]⟩),(.string ⟨#[]⟩),(.int .i64 0)]) 3 40:=by unfold TI;kernel_rfl
end TKQueA
open TKQueA
set_option maxRecDepth 10000
end Go.K
namespace Go.K
open Go.Proofs
namespace TKQueC
theorem RL:TI Tryz.prog 49 (.agg #[(.string ⟨#[]⟩),(.string ⟨#[]⟩),(.int .i64 0)]) 3 40:=by unfold TI;kernel_rfl
theorem tW:TI Tryz.prog 51 (.agg #[(.string ⟨#[]⟩),(.string ⟨#[]⟩),(.int .i64 0)]) 3 40:=by unfold TI;kernel_rfl
end TKQueC
open TKQueC
set_option maxRecDepth 10000
end Go.K
namespace Go.K
open Go.Proofs
namespace TKTak15
theorem RL:TI Tryz.prog 49 (.agg #[(.string ⟨#[]⟩),(.string ⟨#[]⟩),(.int .i64 0)]) 3 40:=by unfold TI;kernel_rfl
theorem tW:TI Tryz.prog 51 (.agg #[(.string ⟨#[]⟩),(.string ⟨#[]⟩),(.int .i64 0)]) 3 40:=by unfold TI;kernel_rfl
theorem SP:placesOf Tryz.prog 51=[(0,2),(2,1)].map some:=by kernel_rfl
end TKTak15
open TKTak15
set_option maxRecDepth 10000
theorem Du {M:aA} {l:List Er} {v0:Value} (w0:World) (hM:Lt M w0) (hv:(RT.er.sl).V M w0 l v0) (hl:l.length≤140737488355328):
  Spec Tryz.prog 47 #[v0] w0 (fun v w=>(RT.er.sl).V M w (l.take 20) v∧Step M w0 M w aC):=by
 have jL:=hM;refine aX (args:=[_]) (fn:=Tryz.f47) Tryz.func47 rfl (n:=30) Tryz.ntmps47 ?_;have S:Step M w0 M w0 aC:=(an _ _).cc (fun _ h=>h.elim) (fun _ h=>h.elim);refine aj (ah (ai rfl rfl (ad (aj (ah (ai rfl rfl (ad (aj (aj (ah (ai rfl rfl ?_)))))))))));refine ad (a8 ?_);refine dC (σ:=Nat×Value) (fun q=>[(0,v0),(3,q.2),(4,.int .i64 (q.1:Int))]) (fun q w=>∃M',Lt M' w∧Step M w0 M' w aC∧Own RT.er 51 M' w w0.heap.size q.2 (l.take q.1)∧(RT.er.sl).V M' w l v0∧q.1≤min 20 l.length) (fun q=>l.length-q.1) (0,.slice none 0 0) (.cons rfl (.cons rfl (.cons rfl .nil))) ?_ ?_
 ·exact⟨M,hM,S,ec _ _ _ _ _,hv,bG _⟩
 ·rintro⟨i,u⟩ w ⟨M1,hM,S,ho,hv,hi⟩;dsimp only at ho hi ⊢;refine aj (aj (ah (ae rfl rfl (ae rfl rfl (bU Tryz.underlying68 rfl hv rfl (cf rfl rfl rfl (ae rfl rfl ?_)))))));refine aG (g:=9) rfl (fun LL=>?_) (fun LL=>?_)
  ·refine al rfl rfl (ae rfl rfl (al rfl rfl (cf rfl rfl rfl (aQ rfl rfl rfl (ad ?_)))));refine bI rfl (fun c3=>?_) (fun c3=>?_)
   ·refine aU (aj (a8 ?_));apply T.nV 12 [0] 1 aC mixed rfl rfl rfl rfl;intro NQ Qr;have xx:=Qr M1;replace hv:=hv.le xx.le;replace ho:=ho.bh xx;replace hM:=xx.lt hM;have:=S.size;replace S:=S.ay xx;refine ae rfl rfl ?_;refine ad ⟨rfl,rfl,rfl,?_⟩;refine ae rfl rfl ?_;refine ad ⟨rfl,rfl,rfl,?_⟩;refine ae rfl rfl ?_;refine ad ⟨rfl,rfl,rfl,?_⟩;obtain⟨e,uJ⟩:∃e,l[i]? =some e:=⟨_,aL (by omega)⟩;refine dq (M:=M1) Tryz.underlying68 RL rfl rfl rfl hv (aq _ _) (by omega) (fun u3 e3 G1 Su=>?_);rw[az]at G1;obtain rfl:=bM (uJ.symm.trans G1);refine ad ⟨rfl,rfl,rfl,?_⟩;refine aH (M:=M1) (A:=RT.er) (B:=RT.fd) Tryz.underlying49 rfl rfl qM (by decide) er0 rfl rfl (by decide) Su (aq _ _) (fun u4 xS=>?_);refine ad ⟨rfl,rfl,rfl,?_⟩;refine cx (M:=M1) (A:=RT.fd) b9 rfl qM (by decide) rfl rfl rfl xS (aq _ _) (fun vt DO=>?_);have ua:=EV DO;obtain rfl:=kN DO;refine ad ⟨rfl,rfl,rfl,?_⟩;refine ae rfl rfl ?_;refine ad ⟨rfl,rfl,rfl,?_⟩;refine ae rfl rfl ?_;refine ad ⟨rfl,rfl,rfl,?_⟩;refine dq (M:=M1) Tryz.underlying68 RL rfl rfl rfl hv (aq _ _) (by omega) (fun u8 e8 G1 XA=>?_);rw[az]at G1;obtain rfl:=bM (uJ.symm.trans G1);refine ad ⟨rfl,rfl,rfl,?_⟩;refine aH (M:=M1) (A:=RT.er) (B:=RT.int .i64) Tryz.underlying49 rfl rfl I3 (by decide) X9 rfl rfl (by decide) XA (aq _ _) (fun u9 LI=>?_);refine ad ⟨rfl,rfl,rfl,?_⟩;refine cb (M:=M1) ar rfl rfl LI (aq _ _) (fun hez=>?_);refine ad ⟨rfl,rfl,rfl,?_⟩;refine dZ (places:=[(0,2),(2,1)]) iD tW SP rfl ⟨_,_,rfl,rfl,_,_,rfl,rfl,rfl⟩ (out:=[_,_,_]) ⟨0,[_,_],rfl,rfl,by simp[Value.cells],2,[_],rfl,rfl,by simp[Value.cells],rfl⟩ ?_;refine ad ⟨rfl,rfl,rfl,?_⟩;refine fy ?_;refine⟨iA ⟨fc,trivial⟩,?_⟩;have kp:=km aC NQ
    refine eE (A:=RT.er) (hn:=by decide) (M:=M1) gj tW (by decide) rfl rfl hM (Ka (p:=e) ua hez) (.inl rfl) (fun PU PV oK oa=>?_);replace hv:=hv.le oa.le;replace ho:=ho.bh oa;replace hM:=oa.lt hM;have:=S.size;replace S:=S.ay oa;refine(fun(kp:eg _ _ _)=>ad ⟨rfl,rfl,fun _=>kp,?_⟩) (by first|exact kp|exact kp.pX (by assumption)|exact kp.goN (by assumption)|exact kp.go (by assumption) (fun _ _ h=>by first|exact h|exact h.elim));refine cR (M:=M1) (base:=w0.heap.size) gj tW rfl rfl rfl rfl ho oK (aq _ _) (by simp;omega) (by simp;omega) (S.size) (fun Fj Fk PW AI oc=>?_);replace hv:=hv.le oc.le;replace oK:=oK.le oc.le;replace hM:=oc.lt hM;have:=S.size;replace S:=S.dh oc ho (bj _);replace ho:=AI;refine ad ⟨rfl,rfl,fun h=>absurd rfl h,?_⟩;refine ai rfl rfl ?_;refine ad ⟨rfl,rfl,fun h=>absurd rfl h,?_⟩;refine qA (ah (ae rfl rfl (bA rfl rfl rfl (by omega) (ai rfl rfl (ad ?_)))));refine⟨rfl,(i+1,Fj),(.cons rfl (.cons rfl (.cons rfl .nil))),?_,?_⟩
    ·exact⟨Fk,hM,S,by dsimp only;rw[cd,uJ];exact ho,hv,by dsimp only;omega⟩
    ·dsimp only;omega
   ·refine cM (aj (ah (ae rfl rfl (ai rfl rfl (ad (aJ ?_))))))
    rw[show l.take 20=l.take i from by
     rcases cK i 20 with h|h
     ·rw[bp (by omega),bp (by omega)]
     ·rw[show i=20 by omega]]
    exact aO rfl rfl ⟨ho.close jL S (by first|omega|(simp;omega)),S.back⟩
  ·refine ao rfl rfl rfl rfl (ao rfl rfl rfl rfl (ax rfl rfl rfl (ad (hU rfl (cM (aj (ah (ae rfl rfl (ai rfl rfl (ad (aJ ?_)))))))))))
   rw[show l.take 20=l.take i from by
    rcases cK i 20 with h|h
    ·rw[bp (by omega),bp (by omega)]
    ·rw[show i=20 by omega]]
   exact aO rfl rfl ⟨ho.close jL S (by first|omega|(simp;omega)),S.back⟩
end Go.K
namespace Go.K
open Go.Proofs
namespace TKLive15
theorem RL:TI Tryz.prog 49 (.agg #[(.string ⟨#[]⟩),(.string ⟨#[]⟩),(.int .i64 0)]) 3 40:=by unfold TI;kernel_rfl
end TKLive15
open TKLive15
set_option maxRecDepth 10000
end Go.K
namespace Go.K
open Go.Proofs
namespace TKSet
theorem oO:TI Tryz.prog 159 (.slice none 0 0) 1 24:=by unfold TI;kernel_rfl
theorem Ys:TI Tryz.prog 161 (.agg #[(.int .i64 0),(.slice none 0 0)]) 2 32:=by unfold TI;kernel_rfl
theorem mJ:TI Tryz.prog 165 (.int .u64 0) 1 8:=by unfold TI;kernel_rfl
theorem Yt:placesOf Tryz.prog 161=[(0,1),(1,1)].map some:=by kernel_rfl
theorem Yu:Enters Tryz.prog 145:=enters Tryz.func145 rfl (by decide)
theorem RM:Enters Tryz.prog 188:=enters Tryz.func188 rfl (by decide)
theorem Yv:Enters Tryz.prog 189:=enters Tryz.func189 rfl (by decide)
end TKSet
open TKSet
set_option maxRecDepth 10000
theorem uG {w0:World} {k m x:Nat} (G2:∃e fr,w0.heap[0]? =some (.cells (Et.map fun(k:Nat)=>Value.int .u8 (k:Int)).toArray e fr)) (hx:x=2^k*(2*m+1)) (hl:x<2^64):
  Spec Tryz.prog 190 #[.int .u64 x] w0 (fun v' w'=>v'= .int .i64 k∧w0=w'):=by
 obtain⟨et,ft,G2⟩:=G2;have hp:=Nat.two_pow_pos k;have vZ:0<x:=by rw[hx];exact Nat.mul_pos hp (by omega)
 have hkx:2^k≤x:=by rw[hx];exact Nat.le_mul_of_pos_right _ (by omega)
 have hk:k<64:=by
  rcases cK k 64 with h2|h2
  ·exact h2
  ·have:=kE (n:=2) (by decide) h2;omega
 obtain⟨hd1,hd2⟩:=KR k hk;have k4:((Et.map fun(k:Nat)=>Value.int .u8 (k:Int)).toArray)[(2^k*285870213051353865)%2^64/2^58]? =some (.int .u8 (k:Int)):=by rw[jN,ew,hd2];rfl
 refine aX (args:=[_]) (fn:=Tryz.f190) Tryz.func190 rfl (n:=14) Tryz.ntmps190 (aj (ah (ai rfl rfl (ad (aj (aj (ah (ae rfl rfl (Rg.zY rfl rfl rfl (ad (T.zX rfl ((by omega)) ?_)))))))))));refine aU (aj (ah (ae rfl rfl (ae rfl rfl (Rg.TN rfl rfl (bu (v':= .int .u64 ((2^64-x:Nat):Int)) (by rw[show(0:Int)-(x:Int)=((2^64-x:Nat):Int)-18446744073709551616 from by omega];simp[IntKind.wrap,IntKind.bits,IntKind.signed];omega) (Rg.and rfl rfl rfl (bu (v':= .int .u64 ((2^k:Nat):Int)) (by rw[wJ x (2^64-x) hl (by omega),hx,HM (by omega)]) (Rg.Ta rfl rfl rfl (bu (v':= .int .u64 (((2^k*285870213051353865)%2^64:Nat):Int)) (congrArg _ (by rw[show((2^k:Nat):Int)*285870213051353865=((2^k*285870213051353865:Nat):Int)from by rw[Int.natCast_mul];rfl];exact wL _)) (Rg.shr rfl rfl rfl (by decide) ?_)))))))))));refine bu (v':= .int .u64 (((2^k*285870213051353865)%2^64/2^58:Nat):Int)) (congrArg _ (KS _ 58 (by decide))) (Rg.KQ (len:=64) Tryz.underlying276 I5 rfl rfl rfl (by omega) (aE (v:= .int .u8 (k:Int)) b4 rfl rfl rfl G2 (by rw[az];exact k4) (Rg.rO b4 ar rfl rfl (by omega) (ai rfl rfl (ad (aJ ?_))))));exact aO rfl rfl ⟨rfl,rfl⟩
theorem Cp {M:aA} {w0:World} {n:Nat} {ws:List Nat} {bs bw:Nat} (h:ek 161 165 n ws M w0 bs bw) {i:Int}:
  Spec Tryz.prog 188 #[.pointer (some ⟨bs,0,none⟩),.int .i64 i] w0 (fun v' w'=>v'= .bool (decide (0≤i∧i<n))∧w0=w'):=by
 have hS:=h.s;have hW:=h.w;have hlen:=h.len;have fu:=h.ok;have DZ:=h.nn;refine aX (args:=[_,_]) (fn:=Tryz.f188) Tryz.func188 rfl (n:=15) Tryz.ntmps188 (aj (ah (ai rfl rfl (ad (aj (ah (ae rfl rfl (dr rfl rfl rfl (ae rfl rfl ?_)))))))));refine aG (g:=7) rfl (fun fF=>?_) (fun fF=>?_)
 ·refine al rfl rfl (ae rfl rfl (al rfl rfl (ae rfl rfl (al rfl rfl (aR rfl ⟨_,rfl⟩ rfl (al rfl rfl (aS cy rfl rfl I3 (by decide) rfl rfl (al rfl rfl (aE ar rfl rfl rfl (by assumption) rfl (al rfl rfl (cf rfl rfl rfl ?_)))))))))));refine aQ rfl rfl rfl (ai rfl rfl (ad (aJ ?_)))
  first
  |exact aO rfl rfl ⟨congrArg Value.bool (decide_eq_decide.2 (by omega)),rfl⟩
  |exact aO rfl rfl ⟨congrArg Value.bool (eF (decide_eq_false (by omega))),rfl⟩
 ·refine ao rfl rfl rfl rfl (ao rfl rfl rfl rfl (ao rfl rfl rfl rfl (ao rfl rfl rfl rfl (ao rfl rfl rfl rfl (ao rfl rfl rfl rfl (ax rfl rfl rfl (ai rfl rfl (ad (aJ ?_)))))))))
  first
  |exact aO rfl rfl ⟨congrArg Value.bool (decide_eq_decide.2 (by omega)),rfl⟩
  |exact aO rfl rfl ⟨congrArg Value.bool (eF (decide_eq_false (by omega))),rfl⟩
theorem G3 {M:aA} {w0:World} {n:Nat} {ws:List Nat} {bs bw:Nat} (h:ek 161 165 n ws M w0 bs bw) {i:Int}:
  Spec Tryz.prog 189 #[.pointer (some ⟨bs,0,none⟩),.int .i64 i] w0 (fun v' w'=>v'= .bool (Jv n ws i)∧w0=w'):=by
 have hS:=h.s;have hW:=h.w;have hlen:=h.len;have fu:=h.ok;have DZ:=h.nn;refine aX (args:=[_,_]) (fn:=Tryz.f189) Tryz.func189 rfl (n:=23) Tryz.ntmps189 (aj (ah (ai rfl rfl (ad (aj (ah (ae rfl rfl (ae rfl rfl ?_))))))));refine aP rfl rfl RM (Cp h) (fun r wc h=>?_);obtain⟨rfl,rfl⟩:=h;refine ae rfl rfl ?_;refine aG (g:=8) rfl (fun gg=>?_) (fun gg=>?_)
 ·obtain⟨j,rfl⟩:∃j:Nat,i=j:=⟨i.toNat,by omega⟩;refine al rfl rfl (ae rfl rfl (al rfl rfl (aR rfl ⟨_,rfl⟩ rfl (al rfl rfl (aS cy rfl rfl oO (by decide) rfl rfl (al rfl rfl (aE bN rfl rfl rfl (by assumption) rfl (al rfl rfl (ae rfl rfl (al rfl rfl (Rg.rN rfl rfl rfl (by omega) ?_)))))))))));refine al rfl rfl (Rg.uh bN mJ rfl rfl rfl (by omega) (al rfl rfl (aE gI rfl rfl rfl hW (v:= .int .u64 ((ws.getD (j/64) 0:Nat):Int)) (by rw[show(((j:Int)/64)).toNat=j/64 from by omega];exact fv (by omega)) (al rfl rfl (ae rfl rfl (al rfl rfl (Rg.rh rfl rfl rfl (by omega) (al rfl rfl (Rg.shr rfl rfl rfl (by omega) (bu (v':= .int .u64 ((ws.getD (j/64) 0/2^(j%64):Nat):Int)) (congrArg _ (by rw[show((j:Int)%64)=((j%64:Nat):Int)from by omega];exact KS _ _ (by omega))) (al rfl rfl ?_)))))))))));refine Rg.and rfl rfl rfl (bu (v':= .int .u64 ((ws.getD (j/64) 0/2^(j%64)%2:Nat):Int)) (congrArg _ (by have:=wJ (ws.getD (j/64) 0/2^(j%64)) 1 (Nat.lt_of_le_of_lt (Nat.div_le_self _ _) (fu.get _)) (by decide);rw[Nat.and_one_is_mod]at this;exact this)) (al rfl rfl (Rg.zY rfl rfl rfl (aQ rfl rfl rfl (ai rfl rfl (ad (aJ ?_)))))))
  first
  |exact aO rfl rfl ⟨congrArg Value.bool (by unfold Jv bit;rw[decide_eq_true gg,dw,az,Nat.testBit_eq_decide_div_mod_eq];exact decide_eq_decide.2 (by omega)),rfl⟩
  |exact aO rfl rfl ⟨congrArg Value.bool (by unfold Jv;rw[decide_eq_false gg,fO]),rfl⟩
 ·refine ao rfl rfl rfl rfl (ao rfl rfl rfl rfl (ao rfl rfl rfl rfl (ao rfl rfl rfl rfl (ao rfl rfl rfl rfl (ao rfl rfl rfl rfl (ao rfl rfl rfl rfl (ao rfl rfl rfl rfl (ao rfl rfl rfl rfl (ao rfl rfl rfl rfl (ao rfl rfl rfl rfl (ao rfl rfl rfl rfl ?_)))))))))));refine ao rfl rfl rfl rfl (ax rfl rfl rfl (ai rfl rfl (ad (aJ ?_))))
  first
  |exact aO rfl rfl ⟨congrArg Value.bool (by unfold Jv bit;rw[decide_eq_true gg,dw,az,Nat.testBit_eq_decide_div_mod_eq];exact decide_eq_decide.2 (by omega)),rfl⟩
  |exact aO rfl rfl ⟨congrArg Value.bool (by unfold Jv;rw[decide_eq_false gg,fO]),rfl⟩
theorem G4 {M:aA} {w0:World} {n:Nat} {ws:List Nat} {bs bw:Nat} (h:ek 161 165 n ws M w0 bs bw) {i:Int} (hb:∀j,bit ws j=true→j<n):
  Spec Tryz.prog 145 #[.pointer (some ⟨bs,0,none⟩),.int .i64 i,.bool true] w0 (fun v' w'=>∃qL,ek 161 165 n qL M w' bs bw∧(∀j:Nat,bit qL j=(bit ws j&&decide ((j:Int)≠i)))∧Step M w0 M w' (fun b=>b=bw)):=by
 have hS:=h.s;have hW:=h.w;have hlen:=h.len;have fu:=h.ok;have DZ:=h.nn;have Yw:∀b:Nat,b=bw→M b:=fun b hb=>by rw[hb];exact h.mw
 refine aX (args:=[_,_,_]) (fn:=Tryz.f145) Tryz.func145 rfl (n:=31) Tryz.ntmps145 (aj (ah (ai rfl rfl (ad (aj (aj (ah (ae rfl rfl (ae rfl rfl ?_)))))))));refine aP rfl rfl RM (Cp h) (fun r wc h=>?_);obtain⟨rfl,rfl⟩:=h;refine Rg.not rfl rfl (bu (v':= .bool (decide (¬(0≤i∧i<n)))) (by rw[decide_not]) (ae rfl rfl ?_));refine aG (g:=11) rfl (fun Bd=>?_) (fun Bd=>?_)
 ·refine ao rfl rfl rfl rfl (ao rfl rfl rfl rfl (ao rfl rfl rfl rfl (ao rfl rfl rfl rfl (ao rfl rfl rfl rfl (aQ rfl rfl rfl (ad (lC rfl (aj (ah (ai rfl rfl (ad ?_)))))))))));refine aJ ?_
  have Hd:bit ws i.toNat=false∨i<0:=by
   by_cases h0:i<0
   ·exact .inr h0
   ·left
    cases NG:bit ws i.toNat with
    |false=>rfl
    |true=>
     have:=hb _ NG
     first
     |omega
     |(exfalso;apply c1;unfold Jv;rw[NG,decide_eq_true (by omega)];rfl)
  refine aO rfl rfl ⟨ws,h,fun j=>?_,(an _ _).cc (fun _ h=>h.elim) Yw⟩;by_cases hj:(j:Int)=i
  ·rw[decide_eq_false (fun h=>h hj),Bool.and_false];rcases Hd with h1|h1
   ·rw[show i.toNat=j from by omega]at h1;exact h1
   ·omega
  ·rw[decide_eq_true hj,ie]
 ·refine al rfl rfl (ae rfl rfl (al rfl rfl (ae rfl rfl (al rfl rfl ?_))));refine aP rfl rfl Yv (G3 h) (fun r wc h=>?_);obtain⟨rfl,rfl⟩:=h;refine al rfl rfl (ae rfl rfl (al rfl rfl (Rg.bne jy rfl rfl rfl (ax rfl rfl rfl (ad ?_)))));refine bI rfl (fun c1=>?_) (fun c1=>?_)
  ·refine aj (ah (ai rfl rfl (ad (aJ ?_))))
   have Hd:bit ws i.toNat=false∨i<0:=by
    by_cases h0:i<0
    ·exact .inr h0
    ·left
     cases NG:bit ws i.toNat with
     |false=>rfl
     |true=>
      have:=hb _ NG
      first
      |omega
      |(exfalso;apply c1;unfold Jv;rw[NG,decide_eq_true (by omega)];rfl)
   refine aO rfl rfl ⟨ws,h,fun j=>?_,(an _ _).cc (fun _ h=>h.elim) Yw⟩;by_cases hj:(j:Int)=i
   ·rw[decide_eq_false (fun h=>h hj),Bool.and_false];rcases Hd with h1|h1
    ·rw[show i.toNat=j from by omega]at h1;exact h1
    ·omega
   ·rw[decide_eq_true hj,ie]
  ·refine aU (aj ?_);obtain⟨j,rfl⟩:∃j:Nat,i=j:=⟨i.toNat,by omega⟩;apply T.BM (M:=M) mixed [] [b8.eq _,b8.eq _,b8.eq _,b8.eq (.slice (some ⟨bw,0,none⟩) ws.length ws.length),b8.eq _,b8.eq _,b8.eq (.pointer (some ⟨bw,((j:Int)/64).toNat,none⟩)),b8.eq (.int .u64 ((ws.getD (j/64) 0:Nat):Int)),b8.eq _,b8.eq _,b8.eq (.int .u64 ((2^(j%64):Nat):Int)),b8.eq (.int .u64 (((ws.getD (j/64) 0^^^2^(j%64)):Nat):Int)),b8.eq (.pointer (some ⟨bw,((j:Int)/64).toNat,none⟩))] 13
   ·rfl
   ·rfl
   ·rfl
   ·rfl
   ·rfl
   ·exact fun p hp=>by cases hp
   ·exact rj.none
   ·refine aF ?_ ?_
    ·intro wD E sD;refine ae rfl rfl ?_;exact ad ⟨rfl,rfl,_,rfl,rfl,an _ _⟩
    refine aF ?_ ?_
    ·intro wD E sD;refine aw (aR rfl ⟨_,rfl⟩ rfl ?_);exact ad ⟨rfl,rfl,_,rfl,rfl,an _ _⟩
    refine aF ?_ ?_
    ·intro wD E sD;refine aw (aS cy rfl rfl oO (by decide) rfl rfl ?_);exact ad ⟨rfl,rfl,_,rfl,rfl,an _ _⟩
    refine aF ?_ ?_
    ·intro wD E sD;refine aw (aE bN rfl rfl rfl (bV sD (by assumption)) rfl ?_);exact ad ⟨rfl,rfl,_,rfl,rfl,an _ _⟩
    refine aF ?_ ?_
    ·intro wD E sD;refine ae rfl rfl ?_;exact ad ⟨rfl,rfl,_,rfl,rfl,an _ _⟩
    refine aF ?_ ?_
    ·intro wD E sD;refine aw (Rg.rN rfl rfl rfl (by omega) ?_);exact ad ⟨rfl,rfl,_,rfl,rfl,an _ _⟩
    refine aF ?_ ?_
    ·intro wD E sD;refine aw (aw (Rg.uh bN mJ rfl rfl rfl (by omega) ?_));exact ad ⟨rfl,rfl,_,rfl,rfl,an _ _⟩
    refine aF ?_ ?_
    ·intro wD E sD;refine aw (aE gI rfl rfl rfl (sD.aI hW) (v:= .int .u64 ((ws.getD (j/64) 0:Nat):Int)) (by rw[show(((j:Int)/64)).toNat=j/64 from by omega];exact fv (by omega)) ?_);exact ad ⟨rfl,rfl,_,rfl,rfl,an _ _⟩
    refine aF ?_ ?_
    ·intro wD E sD;refine ae rfl rfl ?_;exact ad ⟨rfl,rfl,_,rfl,rfl,an _ _⟩
    refine aF ?_ ?_
    ·intro wD E sD;refine aw (Rg.rh rfl rfl rfl (by omega) ?_);exact ad ⟨rfl,rfl,_,rfl,rfl,an _ _⟩
    refine aF ?_ ?_
    ·intro wD E sD;refine aw (Rg.shl rfl rfl rfl (by omega) (bu (v':= .int .u64 ((2^(j%64):Nat):Int)) (congrArg _ (by rw[show((j:Int)%64)=((j%64:Nat):Int)from by omega];exact OK _ (by omega))) ?_));exact ad ⟨rfl,rfl,_,rfl,rfl,an _ _⟩
    refine aF ?_ ?_
    ·intro wD E sD;refine aw (aw (Rg.xor rfl rfl rfl (bu (v':= .int .u64 (((ws.getD (j/64) 0^^^2^(j%64)):Nat):Int)) (congrArg _ (OJ _ _ (fu.get _) (Nat.pow_lt_pow_right (by decide) (by omega)))) ?_)));exact ad ⟨rfl,rfl,_,rfl,rfl,an _ _⟩
    refine aF ?_ ?_
    ·intro wD E sD;refine aw (aw (aw (aw (aw (aw (aw (aw (aw (aw (aw (aw ?_)))))))))));refine aw (aw (Rg.uh bN mJ rfl rfl rfl (by omega) ?_));exact ad ⟨rfl,rfl,_,rfl,rfl,an _ _⟩
    exact bD.nil
   ·intro Pf mA;refine aw (aw (aw (aw (aw (aw (aw (aw (aw (aw (aw (aw ?_)))))))))));refine aw ?_;refine bQ (M:=M) (u:= .int .u64 ((ws.getD (j/64) 0:Nat):Int)) mJ rfl rfl (mA.aI hW) (by rw[show((j:Int)/64).toNat=j/64 from by omega];exact fv (by omega)) rfl h.mw (fun w5 Kf s5=>?_);rw[show((j:Int)/64).toNat=j/64 from by omega,lR]at Kf;refine ad (aj (ah (ai rfl rfl (ad (aJ ?_)))));have hX:(ws.getD (j/64) 0^^^2^(j%64))<2^64:=Nat.xor_lt_two_pow (fu.get _) (Nat.pow_lt_pow_right (by decide) (by omega));refine aO rfl rfl ⟨ws.set (j/64) (ws.getD (j/64) 0^^^2^(j%64)),(h.step mA (fun h=>h) (fun h=>h)).put s5 (by simp) Kf (fu.set hX),fun t=>?_,(mA.cc (fun _ h=>h.elim) Yw).trans s5 (fun _ _ h=>h)⟩
    have Yx:bit ws j=true:=by
     have:=dU.1 c1;unfold Jv at this;rw[az,bC]at this;exact this.2
    rw[Eo fu (by omega)];by_cases ht:t=j
    ·subst ht;rw[Yx];simp
    ·rw[decide_eq_false ht,Bool.xor_false,decide_eq_true (by omega),ie]
theorem zN {M:aA} {w0:World} {n:Nat} {ws:List Nat} {bs bw:Nat} (h:ek 161 165 n ws M w0 bs bw) {i:Int} (hb:∀j,bit ws j=true→j<n):
  Spec Tryz.prog 102 #[.pointer (some ⟨bs,0,none⟩),.int .i64 i] w0 (fun v' w'=>∃qL,ek 161 165 n qL M w' bs bw∧(∀j:Nat,bit qL j=(bit ws j&&decide ((j:Int)≠i)))∧Step M w0 M w' (fun b=>b=bw)):=by
 refine aX (args:=[_,_]) (fn:=Tryz.f102) Tryz.func102 rfl (n:=8) Tryz.ntmps102 (aj (ah (ai rfl rfl (ad (aj (ah (ae rfl rfl (ae rfl rfl ?_))))))));refine aP rfl rfl Yu (G4 h hb) (fun r1 w1 h=>?_);obtain⟨qL,h1,h2,h3⟩:=h;refine ai rfl rfl (ad (aJ ?_));exact aO rfl rfl ⟨qL,h1,h2,h3⟩
theorem qv {M:aA} {w0:World} {n:Nat} (hn:n≤1099511627776):
  Spec Tryz.prog 143 #[.int .i64 n] w0 (fun v' w'=>∃bs bw,v'= .pointer (some ⟨bs,0,none⟩)∧w0.heap.size≤bs∧w0.heap.size≤bw∧Step M w0 (ins (ins M bw) bs) w' aC∧ek 161 165 n (List.replicate ((n+63)/64) 0) (ins (ins M bw) bs) w' bs bw):=by
 refine aX (args:=[_]) (fn:=Tryz.f143) Tryz.func143 rfl (n:=13) Tryz.ntmps143 (aj (ah (ai rfl rfl (ad (aj (ah (ae rfl rfl (Rg.max2 rfl rfl rfl (bu (v':= .int .i64 n) (congrArg _ (by omega)) (ai rfl rfl (ad ?_)))))))))));refine aj (ah (ae rfl rfl (ae rfl rfl (bA rfl rfl rfl (by omega) (fX rfl rfl rfl (by omega) (Rg.rN rfl rfl rfl (by omega) (bu (v':= .int .i64 (((n+63)/64:Nat):Int)) (congrArg _ (by omega)) ?_)))))));refine Rg.mk0 M bN mJ rfl rfl rfl rfl (by omega) (by omega) (fun bw w1 z1 YZ h1 s1=>?_);refine dZ (places:=[(0,1),(1,1)]) cy Ys Yt rfl ⟨_,_,rfl,rfl,_,_,rfl,rfl,rfl⟩ (out:=[_,_]) ⟨0,[_],rfl,rfl,by simp[Value.cells],1,[_],rfl,rfl,by simp[Value.cells],rfl⟩ ?_;refine oT (ins M bw) rfl rfl (fun bs w2 z2 z2' h2 s2=>?_);have y1:=s1.size;refine ai rfl rfl (ad (aJ ?_));refine aO rfl rfl ⟨bs,bw,rfl,by omega,z1,s1.ay s2,.inl rfl,.inr (.inl rfl),by omega,by rw[List.length_replicate];exact h2,?_,by simp,fun x hx=>by rw[List.eq_of_mem_replicate hx];decide,hn⟩;have:=s2.aI h1;rw[this];simp[lQ]
end Go.K
namespace Go.K
open Go.Proofs
namespace TKSet4
theorem oO:TI Tryz.prog 159 (.slice none 0 0) 1 24:=by unfold TI;kernel_rfl
theorem mJ:TI Tryz.prog 165 (.int .u64 0) 1 8:=by unfold TI;kernel_rfl
theorem Yy:Enters Tryz.prog 105:=enters Tryz.func105 rfl (by decide)
theorem Yz:Enters Tryz.prog 106:=enters Tryz.func106 rfl (by decide)
theorem I8:Enters Tryz.prog 143:=enters Tryz.func143 rfl (by decide)
theorem RN:Enters Tryz.prog 149:=enters Tryz.func149 rfl (by decide)
end TKSet4
open TKSet4
set_option maxRecDepth 10000
theorem tM {M:aA} {w0:World} {n:Nat} {ws:List Nat} {bs bw:Nat} (h:ek 161 165 n ws M w0 bs bw) {k:Nat} (hk:k≤1099511627776):
  Spec Tryz.prog 149 #[.pointer (some ⟨bs,0,none⟩),.int .i64 (k:Int)] w0 (fun v' w'=>v'= .int .u64 ((ws.getD k 0:Nat):Int)∧w0=w'):=by
 have hS:=h.s;have hW:=h.w;have hlen:=h.len;have fu:=h.ok;have DZ:=h.nn;refine aX (args:=[_,_]) (fn:=Tryz.f149) Tryz.func149 rfl (n:=19) Tryz.ntmps149 (aj (ah (ai rfl rfl (ad (aj (aj (ah (ae rfl rfl (ae rfl rfl (aR rfl ⟨_,rfl⟩ rfl (aS cy rfl rfl oO (by decide) rfl rfl ?_)))))))))));refine aE bN rfl rfl rfl (by assumption) rfl (Rg.qc bN rfl rfl (cf rfl rfl rfl (ad ?_)));refine bI rfl (fun c1=>?_) (fun c1=>?_)
 ·refine aj (ah (ae rfl rfl (aR rfl ⟨_,rfl⟩ rfl (aS cy rfl rfl oO (by decide) rfl rfl (aE bN rfl rfl rfl (by assumption) rfl (ae rfl rfl (Rg.uh bN mJ rfl rfl rfl (by omega) (aE gI rfl rfl rfl hW (v:= .int .u64 ((ws.getD k 0:Nat):Int)) (by rw[az];exact fv (by omega)) (ai rfl rfl (ad (aJ ?_)))))))))));exact aO rfl rfl ⟨rfl,rfl⟩
 ·refine aU (aj (ah (ai rfl rfl (ad (aJ ?_)))));exact aO rfl rfl ⟨by rw[bH,dI (by omega)];rfl,rfl⟩
theorem Dv {w0:World} {p q:Nat} (hp:p<2^64) (hq:q<2^64):
  Spec Tryz.prog 106 #[.int .u64 (p:Int),.int .u64 (q:Int)] w0 (fun v' w'=>v'= .int .u64 ((p&&&q:Nat):Int)∧w0=w'):=by
 refine aX (args:=[_,_]) (fn:=Tryz.f106) Tryz.func106 rfl (n:=8) Tryz.ntmps106 (aj (ah (ai rfl rfl (ad (aj (ah (ae rfl rfl (ae rfl rfl (Rg.and rfl rfl rfl (bu (v':= .int .u64 ((p&&&q:Nat):Int)) (congrArg _ (wJ p q hp hq)) (ai rfl rfl ?_)))))))))));refine ad (aJ ?_);exact aO rfl rfl ⟨rfl,rfl⟩
theorem Ja {us ws vs:List Nat} (j:Nat) (h:us.getD (j/64) 0=ws.getD (j/64) 0&&&vs.getD (j/64) 0):bit us j=(bit ws j&&bit vs j):=by
 unfold bit;rw[h,Nat.testBit_and]
theorem G5 {p q:Nat} (hp:p<2^64):p&&&q<2^64:=Nat.lt_of_le_of_lt Nat.and_le_left hp
theorem G6 {M:aA} {w0:World} {n:Nat} {ws vs:List Nat} {bs bw cs cw:Nat} (hM:Lt M w0) (h:ek 161 165 n ws M w0 bs bw) (h':ek 161 165 n vs M w0 cs cw):
  Spec Tryz.prog 105 #[.pointer (some ⟨bs,0,none⟩),.pointer (some ⟨cs,0,none⟩),.func (.func 106) #[] #[]] w0 (fun v' w'=>∃os ow us M',v'= .pointer (some ⟨os,0,none⟩)∧w0.heap.size≤os∧w0.heap.size≤ow∧Step M w0 M' w' aC∧ek 161 165 n us M' w' os ow∧∀j,bit us j=(bit ws j&&bit vs j)):=by
 have hS:=h.s;have hW:=h.w;have hlen:=h.len;have fu:=h.ok;have DZ:=h.nn;have hS':=h'.s;have YA:=h'.w;have abj:=h'.len;have YB:=h'.ok;refine aX (args:=[_,_,_]) (fn:=Tryz.f105) Tryz.func105 rfl (n:=43) Tryz.ntmps105 (aj (ah (ai rfl rfl (ad (aj ?_)))));apply T.Ox 9 mixed rfl rfl rfl rfl rfl;intro DH EI;have jg:=EI M;refine ae rfl rfl ?_;refine ad ⟨rfl,rfl,rfl,?_⟩;refine aR rfl ⟨_,rfl⟩ rfl ?_;refine ad ⟨rfl,rfl,rfl,?_⟩;refine aS cy rfl rfl I3 (by decide) rfl rfl ?_;refine ad ⟨rfl,rfl,rfl,?_⟩;refine aE ar rfl rfl rfl (by first|assumption|exact bV jg (by assumption)) rfl ?_;refine ad ⟨rfl,rfl,rfl,?_⟩;refine ae rfl rfl ?_;refine ad ⟨rfl,rfl,rfl,?_⟩;refine aR rfl ⟨_,rfl⟩ rfl ?_;refine ad ⟨rfl,rfl,rfl,?_⟩;refine aS cy rfl rfl I3 (by decide) rfl rfl ?_;refine ad ⟨rfl,rfl,rfl,?_⟩;refine aE ar rfl rfl rfl (by first|assumption|exact bV jg (by assumption)) rfl ?_;refine ad ⟨rfl,rfl,rfl,?_⟩;refine Rg.max2 rfl rfl rfl (bu (v':= .int .i64 n) (congrArg _ (by omega)) ?_);refine ad ⟨rfl,rfl,rfl,?_⟩;refine fy ?_;have Nv:=h.step jg (fun h=>h) (fun h=>h);have YC:=h'.step jg (fun h=>h) (fun h=>h);refine aP rfl rfl I8 (qv (M:=M) DZ) (fun r1 w1 h=>?_);obtain⟨os,ow,rfl,z1,z2,s1,Ng⟩:=h;have zD:=jg.size;obtain⟨M1,rr⟩:∃M1,M1=ins (ins M ow) os:=⟨_,rfl⟩;rw[←rr]at s1 Ng;have h1:=Nv.step s1 (fun h=>h) (fun h=>h);have Hh:=YC.step s1 (fun h=>h) (fun h=>h);have hOS:=Ng.s;have lbs:=ak hS;have lbw:=ak hW;have lcs:=ak hS';have lcw:=ak YA;refine ai rfl rfl (ad (aj (aj (ah (ae rfl rfl (aR rfl ⟨_,rfl⟩ rfl (aS cy rfl rfl oO (by decide) rfl rfl (aE bN rfl rfl rfl hOS rfl (Rg.qc bN rfl rfl (bu (v':= .int .i64 (ws.length:Int)) (congrArg _ (by rw[List.length_replicate];omega)) (ae rfl rfl ?_)))))))))))
 refine ad (a8 ?_);refine dC (σ:=Nat×List Nat) (fun q=>[(0,.pointer (some ⟨bs,0,none⟩)),(1,.pointer (some ⟨cs,0,none⟩)),(2,.func (.func 106) #[] #[]),(7,.pointer (some ⟨os,0,none⟩)),(23,.int .i64 (ws.length:Int)),(24,.int .i64 q.1)]) (fun q w=>q.1≤ws.length∧ek 161 165 n ws M1 w bs bw∧ek 161 165 n vs M1 w cs cw∧ek 161 165 n q.2 M1 w os ow∧(∀k,k<q.1→q.2.getD k 0=ws.getD k 0&&&vs.getD k 0)∧Step M w0 M1 w aC) (fun q=>ws.length-q.1) (0,List.replicate ((n+63)/64) 0) (.cons rfl (.cons rfl (.cons rfl (.cons rfl (.cons rfl (.cons rfl .nil)))))) ?_ ?_
 ·exact⟨bG _,h1,Hh,Ng,fun k hk=>absurd hk (jz _),jg.ay s1⟩
 ·rintro⟨k,us⟩ w2 ⟨hk,h2,uc,ru,o8,S2⟩;dsimp only at hk ru o8 ⊢;have afG:=ru.s;have NO:=ru.len;refine aj (ah (cf rfl rfl rfl (ad (aj ?_))));refine bI rfl (fun c3=>?_) (fun c3=>?_)
  ·refine aU (aj (a8 (aj (ah (ae rfl rfl (ai rfl rfl (ad ?_)))))));apply T.Eb [0,1,2,3,4,5,6,7,9,10,8,11,12,13,14] 10 [0,1,2,3,4,5,8,9] 3 aC mixed
   ·simp+decide only[uU,p6,ib,List.map_nil,tR,tS,List.map_toArray,fq,mK,List.idxOf_cons,cond_true,cond_false,Nat.reduceBEq,Nat.reduceAdd,beq_self_eq_true];rfl
   ·rfl
   ·rfl
   ·rfl
   ·rfl
   ·rfl
   ·rfl
   intro NQ Qr;have xx:=Qr M1;refine ae rfl rfl ?_;refine ad ⟨rfl,rfl,rfl,?_⟩;refine aR rfl ⟨_,rfl⟩ rfl ?_;refine ad ⟨rfl,rfl,rfl,?_⟩;refine aS cy rfl rfl oO (by decide) rfl rfl ?_;refine ad ⟨rfl,rfl,rfl,?_⟩;have RO:=ru.step xx (fun h=>h) (fun h=>h);have hD2:=h2.step xx (fun h=>h) (fun h=>h);have RP:=uc.step xx (fun h=>h) (fun h=>h);have YD:=RO.s;refine aE bN rfl rfl rfl YD rfl ?_;refine ad ⟨rfl,rfl,rfl,?_⟩;refine ae rfl rfl ?_;refine ad ⟨rfl,rfl,rfl,?_⟩;refine ae rfl rfl ?_;refine ad ⟨rfl,rfl,rfl,?_⟩;refine ae rfl rfl ?_;refine ad ⟨rfl,rfl,rfl,?_⟩;refine ae rfl rfl ?_;refine ad ⟨rfl,rfl,rfl,?_⟩;refine ae rfl rfl ?_;refine ad ⟨rfl,rfl,rfl,?_⟩;refine ae rfl rfl ?_;refine ad ⟨rfl,rfl,rfl,?_⟩;refine fy ?_;refine⟨iA ⟨fc,⟨bR.nilCheck rfl,⟨jA cy rfl oO (by decide),⟨fJ rfl (by assumption) (by first|assumption|exact fun h=>h|(intro h;have h:_=_:=h;omega)),⟨fc,⟨fc,⟨fc,⟨fc,trivial⟩⟩⟩⟩⟩⟩⟩⟩,?_⟩;have kp:=km aC NQ;refine aP rfl rfl RN (tM hD2 (k:=k) (by omega)) (fun r wc h=>?_);obtain⟨rfl,rfl⟩:=h;refine(fun(kp:eg _ _ _)=>ad ⟨rfl,rfl,fun _=>kp,?_⟩) (by first|exact kp|exact kp.pX (by assumption)|exact kp.goN (by assumption)|exact kp.go (by assumption) (fun _ _ h=>by first|exact h|exact h.elim));refine aP rfl rfl RN (tM RP (k:=k) (by omega)) (fun r wc h=>?_);obtain⟨rfl,rfl⟩:=h;refine(fun(kp:eg _ _ _)=>ad ⟨rfl,rfl,fun _=>kp,?_⟩) (by first|exact kp|exact kp.pX (by assumption)|exact kp.goN (by assumption)|exact kp.go (by assumption) (fun _ _ h=>by first|exact h|exact h.elim));refine Rg.nT (first:=[]) (captured:=[]) rfl rfl rfl Yz (Dv (fu.get k) (YB.get k)) (fun U0 Hl hc=>?_);obtain⟨rfl,rfl⟩:=hc;refine(fun(kp:eg _ _ _)=>ad ⟨rfl,rfl,fun _=>kp,?_⟩) (by first|exact kp|exact kp.pX (by assumption)|exact kp.goN (by assumption)|exact kp.go (by assumption) (fun _ _ h=>by first|exact h|exact h.elim))
   refine Rg.uh bN mJ rfl rfl rfl (by omega) ?_;refine ad ⟨rfl,rfl,fun h=>absurd rfl h,?_⟩;refine bQ (M:=M1) (u:= .int .u64 ((us.getD k 0:Nat):Int)) mJ rfl rfl RO.w (by rw[az];exact fv (by omega)) rfl RO.mw (fun w5 Kf s5=>?_);rw[az,lR]at Kf;refine ad ⟨rfl,rfl,fun h=>absurd rfl h,?_⟩;refine qA (ah (bA rfl rfl rfl (by omega) (ae rfl rfl (ad ?_))));refine⟨rfl,(k+1,us.set k (ws.getD k 0&&&vs.getD k 0)),(.cons rfl (.cons rfl (.cons rfl (.cons rfl (.cons rfl (.cons rfl .nil)))))),?_,?_⟩
   ·refine⟨by dsimp only;omega,hD2.step s5 (by omega) (by omega),RP.step s5 (by omega) (by omega),RO.put s5 (by simp) Kf (RO.ok.set (G5 (fu.get k))),fun t ht=>?_,(S2.ay xx).cu s5 (fun b (hb:b=ow)=>by omega)⟩;dsimp only at ht ⊢;rw[sr _ _ _ _ (by omega)];by_cases H5:t=k
    ·rw[if_pos H5,H5]
    ·rw[if_neg H5];exact o8 t (by omega)
   ·dsimp only;omega
  ·refine cM (aj (ah (ae rfl rfl (ai rfl rfl (ad (aJ ?_))))))
   exact aO rfl rfl ⟨os,ow,us,M1,rfl,by omega,by omega,S2,ru,fun j=>Ja j (by
    rcases cK (j/64) k with IZ|IZ
    ·exact o8 _ IZ
    ·rw[bH,dI (by omega),bH,dI (by omega)];simp)⟩
theorem Dw {M:aA} {w0:World} {n:Nat} {ws vs:List Nat} {bs bw cs cw:Nat} (hM:Lt M w0) (h:ek 161 165 n ws M w0 bs bw) (h':ek 161 165 n vs M w0 cs cw):
  Spec Tryz.prog 55 #[.pointer (some ⟨bs,0,none⟩),.pointer (some ⟨cs,0,none⟩)] w0 (fun v' w'=>∃os ow us M',v'= .pointer (some ⟨os,0,none⟩)∧w0.heap.size≤os∧w0.heap.size≤ow∧Step M w0 M' w' aC∧ek 161 165 n us M' w' os ow∧∀j,bit us j=(bit ws j&&bit vs j)):=by
 refine aX (args:=[_,_]) (fn:=Tryz.f55) Tryz.func55 rfl (n:=8) Tryz.ntmps55 (aj (ah (ai rfl rfl (ad (aj (ah (ae rfl rfl (ae rfl rfl ?_))))))));refine aP rfl rfl Yy (G6 hM h h') (fun r2 w2 hc=>?_);refine ai rfl rfl (ad (aJ ?_));exact aO rfl rfl hc
end Go.K
namespace Go.K
open Go.Proofs
namespace TKSet3
theorem oO:TI Tryz.prog 159 (.slice none 0 0) 1 24:=by unfold TI;kernel_rfl
theorem mJ:TI Tryz.prog 165 (.int .u64 0) 1 8:=by unfold TI;kernel_rfl
theorem RQ:Enters Tryz.prog 147:=enters Tryz.func147 rfl (by decide)
theorem YE:Enters Tryz.prog 190:=enters Tryz.func190 rfl (by decide)
end TKSet3
open TKSet3
set_option maxRecDepth 10000
theorem tN {M:aA} {w0:World} {n:Nat} {ws:List Nat} {bs bw:Nat} (h:ek 161 165 n ws M w0 bs bw) {i:Int} (hi: -1≤i∧i≤1099511627776) (hb:∀j,bit ws j=true→j<n) (G2:∃e fr,w0.heap[0]? =some (.cells (Et.map fun(k:Nat)=>Value.int .u8 (k:Int)).toArray e fr)):
  Spec Tryz.prog 147 #[.pointer (some ⟨bs,0,none⟩),.int .i64 i] w0 (fun v' w'=>(∃r,v'= .int .i64 r∧Jw ws i.toNat r∧ -1≤r∧r≤1099511627776)∧w0=w'):=by
 have hS:=h.s;have hW:=h.w;have hlen:=h.len;have fu:=h.ok;have DZ:=h.nn;refine aX (args:=[_,_]) (fn:=Tryz.f147) Tryz.func147 rfl (n:=36) Tryz.ntmps147 (aj (ah (ai rfl rfl (ad (aj (ah (ae rfl rfl (Rg.max2 rfl rfl rfl (bu (v':= .int .i64 (i.toNat:Int)) (congrArg _ (by omega)) (ai rfl rfl (ad ?_)))))))))));refine aj (a8 ?_);refine dC (σ:=Nat) (fun s=>[(0,.pointer (some ⟨bs,0,none⟩)),(1,.int .i64 s)]) (fun s w=>w0=w∧i.toNat≤s∧(∀t,i.toNat≤t→t<s→bit ws t=false)∧s≤1099511627840) (fun s=>n+64-s) i.toNat (.cons rfl (.cons rfl .nil)) ?_ ?_
 ·exact⟨rfl,bj _,fun t h1 h2=>by omega,by omega⟩
 ·rintro p w1 ⟨rfl,hp,iK,ri⟩;refine aj (aj (ah (ae rfl rfl (ae rfl rfl (aR rfl ⟨_,rfl⟩ rfl (aS cy rfl rfl I3 (by decide) rfl rfl (aE ar rfl rfl rfl (by assumption) rfl (cf rfl rfl rfl (ad ?_)))))))));refine bI rfl (fun c2=>?_) (fun c2=>?_)
  ·refine aU (a8 (aj (aj (ah (ae rfl rfl (aR rfl ⟨_,rfl⟩ rfl (aS cy rfl rfl oO (by decide) rfl rfl (aE bN rfl rfl rfl (by assumption) rfl (ae rfl rfl (Rg.rN rfl rfl rfl (by omega) (Rg.uh bN mJ rfl rfl rfl (by omega) ?_)))))))))));refine aE gI rfl rfl rfl hW (v:= .int .u64 ((ws.getD (p/64) 0:Nat):Int)) (by rw[show(((p:Int)/64)).toNat=p/64 from by omega];exact fv (by omega)) (ae rfl rfl (Rg.rh rfl rfl rfl (by omega) (Rg.shr rfl rfl rfl (by omega) (bu (v':= .int .u64 ((ws.getD (p/64) 0/2^(p%64):Nat):Int)) (congrArg _ (by rw[show((p:Int)%64)=((p%64:Nat):Int)from by omega];exact KS _ _ (by omega))) (ai rfl rfl (ad (aj (ah (ae rfl rfl (eV rfl rfl rfl (ad ?_)))))))))));refine bI rfl (fun c4=>?_) (fun c4=>?_)
   ·refine aj (ah (ae rfl rfl (ae rfl rfl ?_)));obtain⟨k,m,Ae⟩:=Ep (ws.getD (p/64) 0/2^(p%64)) (Nat.pos_of_ne_zero fun h=>c4 (by rw[h];rfl));have wg:=yo (fu.get _) (show p%64<64 by omega) Ae;have YF:ws.getD (p/64) 0/2^(p%64)<2^64:=Nat.lt_of_le_of_lt (Nat.div_le_self _ _) (fu.get _);refine aP rfl rfl YE (uG (k:=k) (m:=m) G2 Ae YF) (fun r wc h=>?_);obtain⟨rfl,rfl⟩:=h;refine bA rfl rfl rfl (by omega) (ai rfl rfl (ad (aJ ?_)));have Z1:=fun t ht=>(wK (k:=k) (m:=m)).2 t ht
    have hbk:bit ws (p+k)=true:=by rw[su wg,Ae];exact wK.1
    have:=hb _ hbk
    exact aO rfl rfl ⟨⟨_,rfl,.inl ⟨p+k,by omega,by omega,hbk,fun t h1 h2=>by
     rcases cK t p with h|h
     ·exact iK t h1 h
     ·have h3:=su (ws:=ws) (i:=p) (t:=t-p) (by omega);rw[show p+(t-p)=t from by omega]at h3;rw[h3,Ae];exact Z1 _ (by omega)⟩,by omega,by omega⟩,rfl⟩
   ·have ZE:ws.getD (p/64) 0/2^(p%64)=0:=by
     have:=dU.1 c4;exact Int.ofNat.inj this
    refine aU (ah (ae rfl rfl (ae rfl rfl (Rg.rh rfl rfl rfl (by omega) (fX rfl rfl rfl (by omega) (bA rfl rfl rfl (by omega) (ai rfl rfl (ad ?_))))))));refine⟨rfl,p+(64-p%64),(.cons rfl (.cons (by rw[show((p+(64-p%64):Nat):Int)=(p:Int)+(64-(p:Int)%64)from by omega];rfl) .nil)),?_,?_⟩
    ·refine⟨rfl,by omega,fun t h1 h2=>?_,by omega⟩;rcases cK t p with h|h
     ·exact iK t h1 h
     ·have h3:=su (ws:=ws) (i:=p) (t:=t-p) (by omega);rw[show p+(t-p)=t from by omega]at h3;rw[h3,ZE];simp
    ·show n+64-(p+(64-p%64))<n+64-p;omega
  ·refine cM (aj (ah (ai rfl rfl (ad (aJ ?_)))))
   exact aO rfl rfl ⟨⟨_,rfl,.inr ⟨rfl,fun t h1=>by
    rcases cK t p with h|h
    ·exact iK t h1 h
    ·cases Dh:bit ws t with
     |false=>rfl
     |true=>have:=hb t Dh;omega⟩,by omega,by omega⟩,rfl⟩
theorem Dx {M:aA} {w0:World} {bs:Nat} (hM:Lt M w0):
  Spec Tryz.prog 103 #[.pointer (some ⟨bs,0,none⟩)] w0 (fun v' w'=>∃bl,v'= .func (.func 146) #[] #[.pointer (some ⟨bl,0,none⟩)]∧w'.heap[bl]? =some (.cells #[.pointer (some ⟨bs,0,none⟩)] 88 (0,0))∧w0.heap.size≤bl∧Step M w0 M w' aC):=by
 refine aX (args:=[_]) (fn:=Tryz.f103) Tryz.func103 rfl (n:=4) Tryz.ntmps103 (aj (ah ?_));refine oT M rfl rfl (fun bl w1 h1 Hh hS s1=>?_);change w1.heap[bl]? =some (.cells #[.pointer (some ⟨bs,0,none⟩)] _ _)at hS;refine ai rfl rfl (ad (aj (ah (hY (xs:=[]) (ys:=[.tmp 1]) rfl rfl rfl (ai rfl rfl (ad (aJ ?_)))))));exact aO rfl rfl ⟨bl,rfl,hS,h1,s1.back⟩
theorem Bw {w0:World} {n:Nat} {ws:List Nat} {bs bw bl yl:Nat} {J:Nat→aA→World→Prop} {M:aA} {Jx:World→Prop} (hb:∀j,bit ws j=true→j<n) (DM:∀p M w,J p M w→w.heap[bl]? =some (.cells #[.pointer (some ⟨bs,0,none⟩)] 88 (0,0))∧ek 161 165 n ws M w bs bw∧(∃e fr,w.heap[0]? =some (.cells (Et.map fun(k:Nat)=>Value.int .u8 (k:Int)).toArray e fr))) (hy:∀(p j:Nat) (M:aA) (w:World),J p M w→p≤j→bit ws j=true→(∀t,p≤t→t<j→bit ws t=false)→qI Tryz.prog yl [.int .i64 j].toArray w (fun r w'=>∃c,r= .bool c∧(c=true→∃M',J (j+1) M' w')∧(c=false→Jx w'))) (h0:J 0 M w0):
  Spec Tryz.prog 146 #[.func (.yield yl) #[] #[],.pointer (some ⟨bl,0,none⟩)] w0 (fun _ w'=>(∃p M',J p M' w'∧∀t,p≤t→bit ws t=false)∨Jx w'):=by
 obtain⟨NR,Ll,YG⟩:=DM _ _ _ h0;refine aX (args:=[_,_]) (fn:=Tryz.f146) Tryz.func146 rfl (n:=17) Tryz.ntmps146 (aj (ah (aE kV rfl rfl rfl (by assumption) rfl ?_)));refine aP rfl rfl RQ (tN Ll (i:=0) (by omega) hb YG) (fun r wc h=>?_);obtain⟨⟨r,rfl,hr,N6,Jj⟩,rfl⟩:=h;refine ai rfl rfl (ad (a8 ?_));refine dC (σ:=Nat×Int) (fun s=>[(0,.func (.yield yl) #[] #[]),(1,.pointer (some ⟨bl,0,none⟩)),(3,.int .i64 s.2)]) (fun s w=>(∃M1,J s.1 M1 w)∧Jw ws s.1 s.2∧ -1≤s.2∧s.2≤1099511627776∧s.1≤n) (fun s=>n+1-s.1) (0,r) (.cons rfl (.cons rfl (.cons rfl .nil))) ?_ ?_
 ·exact⟨⟨M,h0⟩,hr,N6,Jj,bG _⟩
 ·clear hr N6 Jj;rintro⟨p,r⟩ w1 ⟨⟨M1,hJ⟩,hr,N6,Jj,Ri⟩;dsimp only at hJ hr N6 Jj Ri ⊢;refine aj (aj (ah (ae rfl rfl (dr rfl rfl rfl (ae rfl rfl ?_)))));refine aG (g:=8) rfl (fun fF=>?_) (fun fF=>?_)
  ·refine al rfl rfl (ae rfl rfl (al rfl rfl (ae rfl rfl (al rfl rfl ?_))))
   have hrj:∃j:Nat,r=j∧p≤j∧bit ws j=true∧∀t,p≤t→t<j→bit ws t=false:=by
    rcases hr with h|h
    ·exact h
    ·omega
   obtain⟨j,rfl,YH,RR,iK⟩:=hrj;have hjn:=hb j RR;refine Rg.yield rfl (vs:=[.int .i64 j]) rfl rfl (hy p j M1 _ hJ YH RR iK) (fun r4 w5 h5=>?_);obtain⟨c,rfl,hc5,RB⟩:=h5;refine bu (v':= .bool (decide (c=true))) (by simp) (aQ rfl rfl rfl (ad ?_));refine bI rfl (fun c1=>?_) (fun c1=>?_)
   ·obtain⟨M2,SN⟩:=hc5 c1;obtain⟨DD,xM,YI⟩:=DM _ _ _ SN;refine aU (aj (a8 (aU (ah (aE kV rfl rfl rfl (by assumption) rfl (ae rfl rfl (bA rfl rfl rfl (by omega) ?_)))))));refine aP rfl rfl RQ (tN xM (i:=(j:Int)+1) (by have:=xM.nn;omega) hb YI) (fun r wc h=>?_);obtain⟨⟨r2,rfl,RS,M8,hr4⟩,rfl⟩:=h;refine ai rfl rfl (ad ?_);refine⟨rfl,(j+1,r2),(.cons rfl (.cons rfl (.cons rfl .nil))),?_,?_⟩
    ·refine⟨⟨M2,SN⟩,?_,M8,hr4,by simp only;omega⟩;rw[show((j:Int)+1).toNat=j+1 from by omega]at RS;exact RS
    ·simp only;omega
   ·refine cM ?_;change rM Tryz.prog Tryz.f146 (fun _ w'=>(∃p M',J p M' w'∧∀t,p≤t→bit ws t=false)∨Jx w') .normal _ [] _
    first
    |exact gJ rfl (.inr (RB (by simpa using c1)))
    |(have mR:∀t,p≤t→bit ws t=false:=by
       rcases hr with⟨j,h,_⟩|h
       ·omega
       ·exact h.2
      exact gJ rfl (.inl ⟨p,M1,hJ,mR⟩))
  ·refine ao rfl rfl rfl rfl (ao rfl rfl rfl rfl (ao rfl rfl rfl rfl (ax rfl rfl rfl (ad (hU rfl (cM ?_))))));change rM Tryz.prog Tryz.f146 (fun _ w'=>(∃p M',J p M' w'∧∀t,p≤t→bit ws t=false)∨Jx w') .normal _ [] _
   first
   |exact gJ rfl (.inr (RB (by simpa using c1)))
   |(have mR:∀t,p≤t→bit ws t=false:=by
      rcases hr with⟨j,h,_⟩|h
      ·omega
      ·exact h.2
     exact gJ rfl (.inl ⟨p,M1,hJ,mR⟩))
end Go.K
namespace Go.K
open Go.Proofs
namespace TKSet2
theorem oO:TI Tryz.prog 159 (.slice none 0 0) 1 24:=by unfold TI;kernel_rfl
theorem mJ:TI Tryz.prog 165 (.int .u64 0) 1 8:=by unfold TI;kernel_rfl
theorem I8:Enters Tryz.prog 143:=enters Tryz.func143 rfl (by decide)
theorem YJ:Enters Tryz.prog 144:=enters Tryz.func144 rfl (by decide)
end TKSet2
open TKSet2
set_option maxRecDepth 10000
theorem vW {ws vs:List Nat} {n:Nat} (hl:ws.length=(n+63)/64) (hv:vs.length=(n+63)/64) (hr:0<n%64) (h1:∀j,j<64*ws.length→bit vs j= !bit ws j) (j:Nat):bit (vs.set (vs.length-1) (vs.getD (vs.length-1) 0%2^(n%64))) j=(decide (j<n)&& !bit ws j):=by
 rw[wM _ (by omega)];by_cases hj:j/64=vs.length-1
 ·rw[if_pos hj,Nat.testBit_mod_two_pow];have h2:=h1 j (by omega);have h3:(vs.getD (vs.length-1) 0).testBit (j%64)=bit vs j:=by unfold bit;rw[hj]
  rw[h3,h2];congr 1;exact decide_eq_decide.2 (by omega)
 ·rw[if_neg hj];by_cases pZ:j<n
  ·rw[h1 j (by omega),decide_eq_true pZ,dw]
  ·rw[decide_eq_false pZ,fO,HN (by omega)]
theorem zO {ws vs:List Nat} {n:Nat} (hl:ws.length=(n+63)/64) (hr:n%64=0) (h1:∀j,j<64*ws.length→bit vs j= !bit ws j) (h2:∀j,64*ws.length≤j→bit vs j=false) (j:Nat):bit vs j=(decide (j<n)&& !bit ws j):=by
 by_cases pZ:j<n
 ·rw[h1 j (by omega),decide_eq_true pZ,dw]
 ·rw[decide_eq_false pZ,fO,h2 j (by omega)]
theorem Dy {M:aA} {w0:World} {n:Nat} {ws:List Nat} {bs bw:Nat} (h:ek 161 165 n ws M w0 bs bw):
  Spec Tryz.prog 144 #[.pointer (some ⟨bs,0,none⟩)] w0 (fun v' w'=>∃os ow qL,v'= .pointer (some ⟨os,0,none⟩)∧w0.heap.size≤os∧w0.heap.size≤ow∧Step M w0 (ins (ins M ow) os) w' aC∧ek 161 165 n qL (ins (ins M ow) os) w' os ow∧∀j,bit qL j=(decide (j<n)&& !bit ws j)):=by
 have hS:=h.s;have hW:=h.w;have hlen:=h.len;have fu:=h.ok;have DZ:=h.nn;refine aX (args:=[_]) (fn:=Tryz.f144) Tryz.func144 rfl (n:=56) Tryz.ntmps144 (aj (ah (ai rfl rfl (ad (aj (ah (ae rfl rfl (aR rfl ⟨_,rfl⟩ rfl (aS cy rfl rfl I3 (by decide) rfl rfl (aE ar rfl rfl rfl (by assumption) rfl ?_))))))))));refine aP rfl rfl I8 (qv (M:=M) DZ) (fun r1 w1 h=>?_);obtain⟨os,ow,rfl,z1,z2,s1,Ng⟩:=h;obtain⟨M1,rr⟩:∃M1,M1=ins (ins M ow) os:=⟨_,rfl⟩;rw[←rr]at s1 Ng;have h1:=h.step s1 (fun h=>h) (fun h=>h);have hS1:=h1.s;have lbs:=ak hS;have lbw:=ak hW;refine ai rfl rfl (ad (aj (aj (ah (ae rfl rfl (aR rfl ⟨_,rfl⟩ rfl (aS cy rfl rfl oO (by decide) rfl rfl (aE bN rfl rfl rfl (by assumption) rfl (Rg.qc bN rfl rfl (ae rfl rfl (ad ?_)))))))))));refine a8 ?_;refine dC (σ:=Nat×List Nat) (fun s=>[(0,.pointer (some ⟨bs,0,none⟩)),(3,.pointer (some ⟨os,0,none⟩)),(15,.slice (some ⟨bw,0,none⟩) ws.length ws.length),(16,.int .i64 ws.length),(17,.int .i64 s.1)]) (fun s w=>s.1≤ws.length∧ek 161 165 n ws M1 w bs bw∧ek 161 165 n s.2 M1 w os ow∧(∀j,j<64*s.1→bit s.2 j= !bit ws j)∧(∀j,64*s.1≤j→bit s.2 j=false)∧Step M1 w1 M1 w (fun b=>b=ow)) (fun s=>ws.length-s.1) (0,List.replicate ((n+63)/64) 0) (.cons rfl (.cons rfl (.cons rfl (.cons rfl (.cons rfl .nil))))) ?_ ?_
 ·exact⟨bG _,h1,Ng,fun j hj=>by omega,fun j hj=>yn _ _,(an _ _).cc (fun _ h=>h.elim) (fun b hb=>by rw[hb];exact Ng.mw)⟩
 ·rintro⟨k,vs⟩ w2 ⟨hk,h2,ru,o8,xK,S2⟩;dsimp only at hk ru o8 xK ⊢;have hS2:=h2.s;have hOS:=ru.s;have jv:=ru.len;refine aj (ah (cf rfl rfl rfl (ad (aj ?_))));refine bI rfl (fun c3=>?_) (fun c3=>?_)
  ·refine aU (aj (a8 (aj (ah (ae rfl rfl (Rg.uh bN mJ rfl rfl rfl (by omega) (aE gI rfl rfl rfl h2.w (v:= .int .u64 ((ws.getD (k) 0:Nat):Int)) (by rw[show((k:Int)).toNat=k from by omega];exact fv (by omega)) (ai rfl rfl (ai rfl rfl (ad (ah ?_)))))))))));refine ae rfl rfl (aR rfl ⟨_,rfl⟩ rfl (aS cy rfl rfl oO (by decide) rfl rfl (aE bN rfl rfl rfl (by assumption) rfl (ae rfl rfl (ae rfl rfl (Rg.OI rfl rfl (fu.get _) (Rg.uh bN mJ rfl rfl rfl (by omega) ?_)))))));refine bQ (M:=M1) (u:= .int .u64 ((vs.getD k 0:Nat):Int)) mJ rfl rfl ru.w (by rw[az];exact fv (by omega)) rfl ru.mw (fun w5 Kf s5=>?_);rw[az,lR]at Kf;refine ad (ah (bA rfl rfl rfl (by omega) (ae rfl rfl (ad ?_))));refine⟨rfl,(k+1,vs.set k (2^64-1-ws.getD k 0)),(.cons rfl (.cons rfl (.cons rfl (.cons rfl (.cons rfl .nil))))),?_,?_⟩
   ·refine⟨by simp only;omega,h2.step s5 (by omega) (by omega),ru.put s5 (by simp) Kf (ru.ok.set (by omega)),fun j hj=>?_,fun j hj=>?_,S2.trans s5 (fun _ _ h=>h)⟩
    ·simp only at hj ⊢;rw[wM _ (by omega)];by_cases IZ:j/64=k
     ·rw[if_pos IZ,Eu (fu.get _) (by omega)];unfold bit;rw[IZ]
     ·rw[if_neg IZ];exact o8 j (by omega)
    ·simp only at hj ⊢;rw[wM _ (by omega),if_neg (by omega)];exact xK j (by omega)
   ·simp only;omega
  ·refine cM (aj (aj (ah (ae rfl rfl (aR rfl ⟨_,rfl⟩ rfl (aS cy rfl rfl I3 (by decide) rfl rfl (aE ar rfl rfl rfl (by assumption) rfl (Rg.rh rfl rfl rfl (by omega) (bu (v':= .int .i64 ((n%64:Nat):Int)) (congrArg _ (by omega)) (ai rfl rfl (ad ?_)))))))))));refine aj (ah (ae rfl rfl (nK rfl rfl rfl (ad ?_))));refine bI rfl (fun c8=>?_) (fun c8=>?_)
   ·have NB:=Nat.two_pow_pos (n%64);have hp3:2^(n%64)<2^64:=Nat.pow_lt_pow_right (by decide) (by omega);apply T.BM (M:=M1) mixed [] [b8.eq _,b8.eq _,b8.eq _,b8.eq (.slice (some ⟨ow,0,none⟩) vs.length vs.length),b8.eq _,b8.eq _,b8.eq _,b8.eq (.slice (some ⟨ow,0,none⟩) vs.length vs.length),b8.eq (.int .i64 vs.length),b8.eq (.int .i64 ((vs.length-1:Nat):Int)),b8.eq (.pointer (some ⟨ow,((vs.length-1:Nat):Int).toNat,none⟩)),b8.eq (.int .u64 ((vs.getD (vs.length-1) 0:Nat):Int)),b8.eq _,b8.eq (.int .u64 ((2^(n%64):Nat):Int)),b8.eq (.int .u64 ((2^(n%64)-1:Nat):Int)),b8.eq (.int .u64 (((vs.getD (vs.length-1) 0%2^(n%64)):Nat):Int)),b8.eq (.pointer (some ⟨ow,((vs.length-1:Nat):Int).toNat,none⟩))] 17
    ·rfl
    ·rfl
    ·rfl
    ·rfl
    ·rfl
    ·exact fun p hp=>by cases hp
    ·exact rj.none
    ·refine aF ?_ ?_
     ·intro wD E sD;refine ae rfl rfl ?_;exact ad ⟨rfl,rfl,_,rfl,rfl,an _ _⟩
     refine aF ?_ ?_
     ·intro wD E sD;refine aw (aR rfl ⟨_,rfl⟩ rfl ?_);exact ad ⟨rfl,rfl,_,rfl,rfl,an _ _⟩
     refine aF ?_ ?_
     ·intro wD E sD;refine aw (aS cy rfl rfl oO (by decide) rfl rfl ?_);exact ad ⟨rfl,rfl,_,rfl,rfl,an _ _⟩
     refine aF ?_ ?_
     ·intro wD E sD;refine aw (aE bN rfl rfl rfl (bV sD (by assumption)) rfl ?_);exact ad ⟨rfl,rfl,_,rfl,rfl,an _ _⟩
     refine aF ?_ ?_
     ·intro wD E sD;refine ae rfl rfl ?_;exact ad ⟨rfl,rfl,_,rfl,rfl,an _ _⟩
     refine aF ?_ ?_
     ·intro wD E sD;refine aw (aR rfl ⟨_,rfl⟩ rfl ?_);exact ad ⟨rfl,rfl,_,rfl,rfl,an _ _⟩
     refine aF ?_ ?_
     ·intro wD E sD;refine aw (aS cy rfl rfl oO (by decide) rfl rfl ?_);exact ad ⟨rfl,rfl,_,rfl,rfl,an _ _⟩
     refine aF ?_ ?_
     ·intro wD E sD;refine aw (aE bN rfl rfl rfl (bV sD (by assumption)) rfl ?_);exact ad ⟨rfl,rfl,_,rfl,rfl,an _ _⟩
     refine aF ?_ ?_
     ·intro wD E sD;refine aw (Rg.qc bN rfl rfl ?_);exact ad ⟨rfl,rfl,_,rfl,rfl,an _ _⟩
     refine aF ?_ ?_
     ·intro wD E sD;refine aw (fX rfl rfl rfl (by omega) (bu (v':= .int .i64 ((vs.length-1:Nat):Int)) (congrArg _ (by omega)) ?_));exact ad ⟨rfl,rfl,_,rfl,rfl,an _ _⟩
     refine aF ?_ ?_
     ·intro wD E sD;refine aw (aw (Rg.uh bN mJ rfl rfl rfl (by omega) ?_));exact ad ⟨rfl,rfl,_,rfl,rfl,an _ _⟩
     refine aF ?_ ?_
     ·intro wD E sD;refine aw (aE gI rfl rfl rfl (sD.aI ru.w) (v:= .int .u64 ((vs.getD (vs.length-1) 0:Nat):Int)) (by rw[az];exact fv (by omega)) ?_);exact ad ⟨rfl,rfl,_,rfl,rfl,an _ _⟩
     refine aF ?_ ?_
     ·intro wD E sD;refine ae rfl rfl ?_;exact ad ⟨rfl,rfl,_,rfl,rfl,an _ _⟩
     refine aF ?_ ?_
     ·intro wD E sD;refine aw (Rg.shl rfl rfl rfl (by omega) (bu (v':= .int .u64 ((2^(n%64):Nat):Int)) (congrArg _ (OK _ (by omega))) ?_));exact ad ⟨rfl,rfl,_,rfl,rfl,an _ _⟩
     refine aF ?_ ?_
     ·intro wD E sD;refine aw (Rg.Kr rfl rfl rfl (bu (v':= .int .u64 ((2^(n%64)-1:Nat):Int)) (congrArg _ (by rw[show((2^(n%64):Nat):Int)-1=((2^(n%64)-1:Nat):Int)from by omega,wL,kU (by omega)])) ?_));exact ad ⟨rfl,rfl,_,rfl,rfl,an _ _⟩
     refine aF ?_ ?_
     ·intro wD E sD;refine aw (aw (Rg.and rfl rfl rfl (bu (v':= .int .u64 (((vs.getD (vs.length-1) 0%2^(n%64)):Nat):Int)) (congrArg _ (by rw[wJ _ _ (ru.ok.get _) (by omega),Nat.and_two_pow_sub_one_eq_mod])) ?_)));exact ad ⟨rfl,rfl,_,rfl,rfl,an _ _⟩
     refine aF ?_ ?_
     ·intro wD E sD;refine aw (aw (aw (aw (aw (aw (aw (aw (aw (aw (aw (aw ?_)))))))))));refine aw (aw (aw (aw (aw (aw (Rg.uh bN mJ rfl rfl rfl (by omega) ?_))))));exact ad ⟨rfl,rfl,_,rfl,rfl,an _ _⟩
     exact bD.nil
    ·intro NV Cj;refine aw (aw (aw (aw (aw (aw (aw (aw (aw (aw (aw (aw ?_)))))))))));refine aw (aw (aw (aw (aw ?_))));refine bQ (M:=M1) (u:= .int .u64 ((vs.getD (vs.length-1) 0:Nat):Int)) mJ rfl rfl (Cj.aI ru.w) (by rw[az];exact fv (by omega)) rfl ru.mw (fun w9 YK s9=>?_);rw[az,lR]at YK;refine ad (aj (ah (ae rfl rfl (ai rfl rfl (ad (aJ ?_))))));have yb:k=ws.length:=by omega
     first
     |exact aO rfl rfl ⟨os,ow,vs.set (vs.length-1) (vs.getD (vs.length-1) 0%2^(n%64)),rfl,z1,z2,by rw[←rr];exact(s1.cu S2 (fun b hb=>by omega)).ay Cj |>.cu s9 (fun b hb=>by omega),by rw[←rr];exact(ru.step Cj (fun h=>h) (fun h=>h)).put s9 (by simp) YK (ru.ok.set (Nat.lt_of_le_of_lt (Nat.mod_le _ _) (ru.ok.get _))),fun j=>vW hlen jv (by omega) (by rw[←yb];exact o8) j⟩
     |exact aO rfl rfl ⟨os,ow,vs,rfl,z1,z2,by rw[←rr];exact s1.cu S2 (fun b hb=>by omega),by rw[←rr];exact ru,fun j=>zO hlen (by omega) (by rw[←yb];exact o8) (by rw[←yb];exact xK) j⟩
   ·refine aU (aj (ah (ae rfl rfl (ai rfl rfl (ad (aJ ?_))))));have yb:k=ws.length:=by omega
    first
    |exact aO rfl rfl ⟨os,ow,vs.set (vs.length-1) (vs.getD (vs.length-1) 0%2^(n%64)),rfl,z1,z2,by rw[←rr];exact(s1.cu S2 (fun b hb=>by omega)).ay Cj |>.cu s9 (fun b hb=>by omega),by rw[←rr];exact(ru.step Cj (fun h=>h) (fun h=>h)).put s9 (by simp) YK (ru.ok.set (Nat.lt_of_le_of_lt (Nat.mod_le _ _) (ru.ok.get _))),fun j=>vW hlen jv (by omega) (by rw[←yb];exact o8) j⟩
    |exact aO rfl rfl ⟨os,ow,vs,rfl,z1,z2,by rw[←rr];exact s1.cu S2 (fun b hb=>by omega),by rw[←rr];exact ru,fun j=>zO hlen (by omega) (by rw[←yb];exact o8) (by rw[←yb];exact xK) j⟩
theorem Dz {M:aA} {w0:World} {n:Nat} (hn:n≤1099511627776):
  Spec Tryz.prog 101 #[.int .i64 n] w0 (fun v' w'=>∃os ow qL M',v'= .pointer (some ⟨os,0,none⟩)∧w0.heap.size≤os∧w0.heap.size≤ow∧Step M w0 M' w' aC∧ek 161 165 n qL M' w' os ow∧∀j,bit qL j=decide (j<n)):=by
 refine aX (args:=[_]) (fn:=Tryz.f101) Tryz.func101 rfl (n:=6) Tryz.ntmps101 (aj (ah (ai rfl rfl (ad (aj (ah (ae rfl rfl ?_)))))));refine aP rfl rfl I8 (qv (M:=M) hn) (fun r1 w1 h=>?_);obtain⟨bs,bw,rfl,z1,z2,s1,h1⟩:=h;refine aP rfl rfl YJ (Dy h1) (fun r2 w2 h=>?_);obtain⟨os,ow,qL,rfl,z3,z4,s2,h2,hb⟩:=h;have y1:=s1.size;refine ai rfl rfl (ad (aJ ?_));exact aO rfl rfl ⟨os,ow,qL,_,rfl,by omega,by omega,s1.ay s2,h2,fun j=>by rw[hb j,yn];simp⟩
end Go.K
namespace Go.K
open Go.Proofs
namespace TKSet5
theorem YL:Enters Tryz.prog 103:=enters Tryz.func103 rfl (by decide)
theorem YM:Enters Tryz.prog 146:=enters Tryz.func146 rfl (by decide)
end TKSet5
open TKSet5
set_option maxRecDepth 10000
def low (ws:List Nat):Nat→List Int
 |0=>[]
 |p+1=>if bit ws p then low ws p++[(p:Int)]else low ws p
theorem xJ (ws:List Nat):∀p,(low ws p).length≤p
 |0=>bj _
 |p+1=>by
  have:=xJ ws p;unfold low;split
  ·simp;omega
  ·omega
theorem pJ {ws:List Nat} {p:Nat}:∀{j:Nat},p≤j→(∀t,p≤t→t<j→bit ws t=false)→low ws j=low ws p
 |0,h,_=>by rw[show p=0 by omega]
 |j+1,h,iK=>by
  rcases jj h with e|h1
  ·rw[e]
  ·rw[low,iK j (by omega) (by omega)];simp only[Bool.false_eq_true,if_false];exact pJ (by omega) (fun t h1 h2=>iK t h1 (by omega))
theorem Jb:I7 (RT.int .i64):=fun _ _ _ _ _ _ h=>h
structure DQ (n:Nat) (ws:List Nat) (bs bw bl:Nat) (M:aA) (w:World):Prop where
 f: ¬M bl∧¬M bs∧¬M bw∧¬M 0
 l:w.heap[bl]? =some (.cells #[.pointer (some ⟨bs,0,none⟩)] 88 (0,0))
 s:ek 161 165 n ws (fun _=>True) w bs bw
 t:∃e fr,w.heap[0]? =some (.cells (Et.map fun(k:Nat)=>Value.int .u8 (k:Int)).toArray e fr)
theorem DQ.keeps {n:Nat} {ws:List Nat} {bs bw bl:Nat} {M M':aA} {w w':World} (h:DQ n ws bs bw bl M w) (l:Le M w M' w'):DQ n ws bs bw bl M' w':=by
 obtain⟨⟨f1,f2,f3,f4⟩,hl,hs,e,fr,ht⟩:=h;have a1:=l bl (ak hl) f1;have a2:=l bs (ak hs.s) f2;have a3:=l bw (ak hs.w) f3;have a4:=l 0 (ak ht) f4;exact⟨⟨a1.1,a2.1,a3.1,a4.1⟩,a1.2.trans hl,⟨trivial,trivial,hs.ne,a2.2.trans hs.s,a3.2.trans hs.w,hs.len,hs.ok,hs.nn⟩,e,fr,a4.2.trans ht⟩
theorem Bx {M:aA} {w0:World} {n:Nat} {ws:List Nat} {bs bw:Nat} (hM:Lt M w0) (h:ek 161 165 n ws (fun _=>True) w0 bs bw) (hb:∀j,bit ws j=true→j<n) (hf: ¬M bs∧¬M bw∧¬M 0) (G2:∃e fr,w0.heap[0]? =some (.cells (Et.map fun(k:Nat)=>Value.int .u8 (k:Int)).toArray e fr)):
  Spec Tryz.prog 52 #[.pointer (some ⟨bs,0,none⟩)] w0 (fun v w=>∃M',Own (RT.int .i64) 3 M' w w0.heap.size v (low ws n)∧Step M w0 M' w aC):=by
 have jL:=hM;refine mU (args:=[_]) (fn:=Tryz.f52) Tryz.func52 rfl (n:=13) Tryz.ntmps52 ?_;have S:Step M w0 M w0 aC:=(an _ _).cc (fun _ h=>h.elim) (fun _ h=>h.elim);refine aj (ah (ai rfl rfl (ad (aj (ah ?_)))));refine eW M nM rfl (fun mB CS Pl Pm jr nN=>?_);obtain⟨ng,nh⟩:∃M',M'=ins M mB:=⟨_,rfl⟩;rw[←nh]at nN;have gM:ng mB:=by rw[nh];exact .inl rfl
 change CS.heap[mB]? =some (.cells #[.slice none 0 0] _ _)at jr;replace hM:=nN.lt hM;have:=S.size;replace S:=S.ay nN;refine ad (aj (aj (ah (ae rfl rfl ?_))));refine aP rfl rfl YL (Dx (bs:=bs) hM) (fun r2 w2 hc=>?_);obtain⟨bl,rfl,gl,zV,s2⟩:=hc;have fl: ¬ng bl:=fun h=>by have:=hM _ h;omega
 have hk:DQ n ws bs bw bl ng w2:=by
  obtain⟨e,fr,ht⟩:=G2;have q:=S.ay s2;exact⟨⟨fl,fun hn=>hf.1 ((q.mem _ (ak h.s)).1 hn),fun hn=>hf.2.1 ((q.mem _ (ak h.w)).1 hn),fun hn=>hf.2.2 ((q.mem _ (ak ht)).1 hn)⟩,gl,⟨trivial,trivial,h.ne,q.aI h.s,q.aI h.w,h.len,h.ok,h.nn⟩,e,fr,q.aI ht⟩
 have:=ak jr;replace gM:=(s2.mem _ this).2 gM;replace jr:=s2.aI jr;replace hM:=s2.lt hM;have:=S.size;replace S:=S.ay s2;refine ad (a8 ?_);refine T.range (gf:=146) (lb:=[.pointer (some ⟨bl,0,none⟩)].toArray) rfl YM (fun rec mT=>?_);obtain⟨D,hD⟩:∃D,D=w2.heap.size:=⟨_,rfl⟩;obtain⟨Mr,h0⟩:=Rt (A:=RT.int .i64) (e:=3) (T:=32) (C:=216) (K:=DQ n ws bs bw bl) (st:=rec .ready none) DQ.keeps hM S jr gM hk (by omega);rw[←hD]at mT h0 ⊢;refine Spec.mono (Bw (M:=fun _=>True) (J:=fun p Ma w=>Ma=(fun _=>True)∧∃M' vo,zG (RT.int .i64) 3 32 216 (DQ n ws bs bw bl) M w0 mB D (rec .ready none) vo (low ws p) M' w) (Jx:=fun _=>False) hb (fun p Ma w ⟨e,M',vo,h⟩=>by subst e;exact⟨h.k.l,h.k.s,h.k.t⟩) (fun p j Ma wr hJ YH RR iK=>?_) ⟨rfl,Mr,_,h0⟩) (fun _ w3 h3=>?_)
 ·obtain⟨_,M',vo,h⟩:=hJ;have hjn:=hb j RR;have DZ:=h.k.s.nn;have Hz:=xJ ws p;refine k5 (ps:=[7]) (vs:=[.int .i64 (j:Int)]) mT h.r rfl (by decide) (ah (ai rfl rfl (ad ?_)));refine⟨rfl,h.r,?_⟩;have h4:=h.mE DQ.keeps (st':=rec .busy none);have s4:Step M' wr M' (wr.putObj (D+1) (.loop (rec .busy none))) (fun k=>k=D+1):=dH h.mr;generalize wr.putObj (D+1) _=w4 at h4 s4 ⊢;refine a8 (ah (aE au rfl rfl rfl h4.o rfl (bu (v':=vo) rfl (ae rfl rfl ?_))));refine eE (A:=RT.int .i64) (hn:=by decide) (M:=M') au I3 (by decide) rfl rfl h4.lt (BF.2 ⟨rfl,by show-9223372036854775808≤(j:Int)∧(j:Int)≤9223372036854775807;omega⟩) (.inr ⟨rfl,rfl⟩) (fun u5 w5 Au s5=>?_);have h6:=h4.bh DQ.keeps s5;refine cR (M:=M') (base:=w0.heap.size) au I3 rfl rfl rfl rfl h6.own Au (aq _ _) (by simp;omega) (by simp;omega) h6.S.size (fun v6 M6 w6 qQ s6=>?_);obtain⟨⟨Yh,Yi⟩,Hf⟩:=h6.grow DQ.keeps (by decide) s6 qQ;refine bQ (M:=M6) nM rfl rfl Yh rfl (by obtain⟨_,_,he,_⟩:=qQ.isSlice;rw[he];rfl) Yi (fun w7 g7 s7=>?_);refine ad ?_;have h8:=(Hf s7 g7).mE DQ.keeps (st':=rec .ready none);exact⟨(Hf s7 g7).r,true,rfl,fun _=>⟨_,rfl,M6,v6,by rw[low,if_pos RR,pJ YH iK];exact h8⟩,fun h=>by cases h⟩
 ·obtain⟨p,_,⟨_,M',vo,h⟩,mR⟩:=h3.resolve_right id;left;refine⟨h.r,?_⟩;have h5:=h.mE DQ.keeps (st':=rec .exhausted none);generalize w3.putObj (D+1) _=wE at h5 ⊢;refine aj (ah (aE au rfl rfl rfl h5.o rfl (bu (v':=vo) rfl (ai rfl rfl (ad (aJ ?_))))));have sE:Step M' wE M' (wE.putObj D (.deferred none)) (fun k=>k=D):=dH h5.md;have hz:=h5.z;have hS:=h5.S.cu sE (fun k (hk:k=D)=>by omega)
  have ho:=h5.own.step sE (fun b hb (hn:b=D)=>by
   obtain⟨cs,hc⟩:=h5.own.isCells hb;rw[hn,h5.d]at hc;cases hc)
  have e:low ws n=low ws p:=by
   rcases Nat.le_total p n with h1|h1
   ·exact pJ h1 (fun t h2 _=>mR t h2)
   ·exact(pJ h1 (fun t h2 _=>by
     cases Dh:bit ws t with
     |false=>rfl
     |true=>have:=hb t Dh;omega)).symm
  exact Ag rfl rfl h5.d ⟨M',by rw[e];exact ho,hS⟩
theorem l8 {M:aA} {w0:World} {n:Nat} {ws:List Nat} {bs bw:Nat} (hM:Lt M w0) (h:ek 161 165 n ws M w0 bs bw) (hb:∀j,bit ws j=true→j<n) (h0: ¬M 0) (G2:∃e fr,w0.heap[0]? =some (.cells (Et.map fun(k:Nat)=>Value.int .u8 (k:Int)).toArray e fr)):Spec Tryz.prog 52 #[.pointer (some ⟨bs,0,none⟩)] w0 (fun v w=>((RT.int .i64).sl).V M w (low ws n) v∧Step M w0 M w aC):=
 (Bx (M:=fun b=>M b∧b≠bs∧b≠bw) (fun b hb=>hM b hb.1) ⟨trivial,trivial,h.ne,h.s,h.w,h.len,h.ok,h.nn⟩ hb ⟨fun h=>h.2.1 rfl,fun h=>h.2.2 rfl,fun h=>h0 h.1⟩ G2).mono fun v w ⟨M',ho,s⟩=>ho.Nf Jb s (bj _) hM (by have:=xJ ws n;have:=h.nn;omega)
end Go.K
namespace Go.K
section
variable {P:Program} {r:Option Nat} {n:Nat} {L:Sl} {ds:List Deferred} {w:World} {K:Kt}
theorem T.RU {σ:Type} {c:Code} (Lf:σ→Sl) (df:σ→List Deferred) (I:σ→World→Prop) (m:σ→Nat) (s0:σ) (hL:Sub (Lf s0) L) (hd:df s0=ds) (h0:I s0 w)
  (round:∀s w,I s w→T P r n c (Lf s) (df s) w (rJ (fun L' kH w'=>∃s',kH=df s'∧Sub (Lf s') L'∧I s' w'∧m s'<m s) K)):T P r n (.loop c) L ds w K:=by
 classical
 refine⟨fun a ha=>?_⟩;subst hd
 let J:σ→Act→World→Prop:=fun s a w=>fL n a (Lf s) (df s)∧I s w
 let μ:Act→World→Nat:=fun a w=>if h:∃s,J s a w then m (Classical.choose (least m (J · a w) h))else 0
 refine wpIn_loop (fun a w=>∃s,J s a w) μ ⟨s0,ha.sub hL,h0⟩ ?_;rintro a w hJ;have hc:=Classical.choose_spec (least m (J · a w) hJ);have hμ:μ a w=m (Classical.choose (least m (J · a w) hJ)):=by simp only[μ];rw[dif_pos hJ]
 rw[hμ];generalize Classical.choose (least m (J · a w) hJ)=s at hc;obtain⟨⟨hs,hi⟩,_⟩:=hc;refine wpIn_mono ((round s w hi).run a hs) ?_;rintro e a' w' ⟨L',kH,lE,hK⟩
 cases e with
 |normal=>
  obtain⟨s',rfl,DR,fB,dB⟩:=hK;have Hs:∃s,J s a' w':=⟨s',lE.sub DR,fB⟩;refine⟨Hs,?_⟩;have h2:=(Classical.choose_spec (least m (J · a' w') Hs)).2 s' ⟨lE.sub DR,fB⟩;simp only[μ];rw[dif_pos Hs];omega
 |exit id=>exact⟨L',kH,lE,hK⟩
 |goto id=>exact⟨L',kH,lE,hK⟩
 |ret=>exact⟨L',kH,lE,hK⟩
 |panic c=>exact⟨L',kH,lE,hK⟩
 |outgrown=>exact⟨L',kH,lE,hK⟩
structure fp (M:aA) (w:World) (base:Nat) (Ds:List Nat):Prop where
 nd:Ds.Nodup
 at_:∀D∈Ds,w.heap[D]? =some (.deferred (some []))∧M D∧base≤D
theorem fp.nil (M:aA) (w:World) (base:Nat):fp M w base []:=⟨List.Pairwise.nil,fun D h=>absurd h (List.not_mem_nil)⟩
theorem fp.cons {M:aA} {base D:Nat} {Ds:List Nat} (h:fp M w base Ds) (h1:D∉Ds) (h2:w.heap[D]? =some (.deferred (some []))) (h3:M D) (h4:base≤D):fp M w base (D::Ds):=
 ⟨rI.2 ⟨h1,h.nd⟩,fun E hE=>by
  rcases dx.1 hE with rfl|hE
  ·exact⟨h2,h3,h4⟩
  ·exact h.at_ E hE⟩
theorem fp.step {M M' N:aA} {w':World} {base:Nat} {Ds:List Nat} (h:fp M w base Ds) (s:Step M w M' w' N) (hN:∀b,N b→w.heap[b]? ≠some (.deferred (some []))):fp M' w' base Ds:=
 ⟨h.nd,fun D hD=>by
  obtain⟨h1,h2,h3⟩:=h.at_ D hD;exact⟨s.bF h1 (fun hn=>hN D hn h1),(s.mem _ (ak h1)).2 h2,h3⟩⟩
theorem fp.run {M:aA} {base:Nat}:∀{Ds:List Nat} {w:World},fp M w base Ds→∃w',Marks P (Ds.map mark) w w'∧Step M w M w' (fun b=>M b∧base≤b∧w.heap[b]? =some (.deferred (some [])))
 |[],w,_=>⟨w,rfl,(an _ _).cc (fun _ h=>h.elim) (fun _ h=>h.1)⟩
 |D::Ds,w,h=>by
  obtain⟨h1,h2,h3⟩:=h.at_ D (by simp);have mL:=rI.1 h.nd;have sE:Step M w M (w.putObj D (.deferred none)) (fun k=>k=D):=⟨fun h k hk=>by simpa[World.putObj]using h k hk,rfl,rfl,rfl,by simp[World.putObj],fun _ _=>Iff.rfl,fun k _ hn=>World.putObj_heap_other (fun e=>hn e),fun k hk=>by subst hk;exact h2⟩
  have h':fp M (w.putObj D (.deferred none)) base Ds:=⟨mL.2,fun E hE=>by
   obtain⟨q1,q2,q3⟩:=h.at_ E (by simp[hE]);exact⟨sE.bF q1 (fun(e:E=D)=>mL.1 (by rw[←e];exact hE)),q2,q3⟩⟩
  obtain⟨w',hm,s⟩:=fp.run h';refine⟨w',⟨D,_,rfl,run_takeDeferred h1,hm⟩,(sE.cc (fun b hb=>by subst hb;exact⟨h2,h3,h1⟩) (fun b hb=>hb.1)).trans s (fun b hb ⟨q1,q2,q3⟩=>?_)⟩;by_cases e:b=D
  ·subst e;exact⟨h2,h3,h1⟩
  ·exact⟨q1,q2,by rw[←sE.same b hb e];exact q3⟩
theorem Nh {fn:Func} {Q:Value→World→Prop} {M:aA} {base t:Nat} {v:Value} {Ds:List Nat} (hr:fn.results= #[.tmp t]) (hv:lk L t=some v) (hD:fp M w base Ds) (h:∀w',Step M w M w' (fun b=>M b∧base≤b∧w.heap[b]? =some (.deferred (some [])))→Q v w'):
  yf P fn Q .ret L (Ds.map mark) w:=by
 obtain⟨w',hm,s⟩:=hD.run (P:=P);exact⟨w',hm,fun a ha=>⟨v,by simp[results,hr,ha t v hv],h w' s⟩⟩
end
end Go.K
namespace Go.K
open Go.Proofs
set_option maxRecDepth 10000
structure G7 (X K:aA→World→Prop) (M:aA) (w0:World) (Ds:List Nat) (D:Nat) (st:Loop) (M':aA) (w:World):Prop where
 lt:Lt M' w
 S:Step M w0 M' w aC
 r:w.heap[D+1]? =some (.loop st)
 mr:M' (D+1)
 d:w.heap[D]? =some (.deferred (some []))
 md:M' D
 x:X M' w
 k:K M' w
 ms:fp M' w w0.heap.size Ds
 z:w0.heap.size≤D
 dn:D∉Ds
section
variable {X X' K:aA→World→Prop} {M M1 M2 N:aA} {w0 w w':World} {Ds:List Nat} {D:Nat} {st:Loop} {C:TypeId}
def Cq (C:TypeId) (X:aA→World→Prop):Prop:=∀{M w M' w' N},X M w→Step M w M' w' N→(∀b,N b→∀cs t fr,w.heap[b]? =some (.cells cs t fr)→t=C)→X M' w'
theorem G7.RV (hK:∀{M w M' w'},K M w→Le M w M' w'→K M' w') (h:G7 X K M w0 Ds D st M1 w) (s:Step M1 w M2 w' N) (hb:∀b,N b→w0.heap.size≤b) (hc:∀b,N b→b<w.heap.size→∃cs t fr,w.heap[b]? =some (.cells cs t fr)) (x:X' M2 w'):G7 X' K M w0 Ds D st M2 w':=by
 have n1: ¬N (D+1):=fun hn=>by obtain⟨cs,t,fr,hq⟩:=hc _ hn (ak h.r);rw[h.r]at hq;cases hq
 have n2: ¬N D:=fun hn=>by obtain⟨cs,t,fr,hq⟩:=hc _ hn (ak h.d);rw[h.d]at hq;cases hq
 exact⟨s.lt h.lt,h.S.cu s hb,s.bF h.r n1,(s.mem _ (ak h.r)).2 h.mr,s.bF h.d n2,(s.mem _ (ak h.d)).2 h.md,x,hK h.k s.le,h.ms.step s (fun b hn hq=>by obtain⟨cs,t,fr,hq'⟩:=hc b hn (ak hq);rw[hq]at hq';cases hq'),h.z,h.dn⟩
theorem G7.GR (hK:∀{M w M' w'},K M w→Le M w M' w'→K M' w') (hX:Cq C X) (h:G7 X K M w0 Ds D st M1 w) (s:Step M1 w M2 w' N) (hN:∀b,N b→w0.heap.size≤b∧(b<w.heap.size→∃cs,w.heap[b]? =some (.cells cs C (0,0)))):G7 X K M w0 Ds D st M2 w':=
 h.RV hK s (fun b hb=>(hN b hb).1) (fun b hb hl=>by obtain⟨cs,hc⟩:=(hN b hb).2 hl;exact⟨_,_,_,hc⟩) (hX h.x s (fun b hb cs t fr hc=>by
  obtain⟨Hg,xV⟩:=(hN b hb).2 (ak hc);rw[hc]at xV;injection xV with xV;injection xV))
theorem G7.mE (hK:∀{M w M' w'},K M w→Le M w M' w'→K M' w') (hX:Cq C X) {st':Loop} (h:G7 X K M w0 Ds D st M1 w):G7 X K M w0 Ds D st' M1 (w.putObj (D+1) (.loop st')):=by
 have s:Step M1 w M1 (w.putObj (D+1) (.loop st')) (fun k=>k=D+1):=dH h.mr;have z:=h.z;refine⟨s.lt h.lt,h.S.cu s (fun k (hk:k=D+1)=>by omega),World.putObj_heap_same (ak h.r),h.mr,s.bF h.d (fun(hn:D=D+1)=>by omega),h.md,hX h.x s (fun b (hb:b=D+1) cs t fr hc=>?_),hK h.k s.le,h.ms.step s (fun b (hb:b=D+1) hc=>?_),h.z,h.dn⟩
 ·rw[hb,h.r]at hc;cases hc
 ·rw[hb,h.r]at hc;cases hc
end
theorem YN {X K:aA→World→Prop} {C:TypeId} {M M1:aA} {w0 w:World} {Ds:List Nat} {st:Loop} (hK:∀{M w M' w'},K M w→Le M w M' w'→K M' w') (hX:Cq C X) (hM:Lt M1 w) (S:Step M w0 M1 w aC) (hx:X M1 w) (hk:K M1 w) (hd:fp M1 w w0.heap.size Ds):
  ∃M',G7 X K M w0 Ds w.heap.size st M' ((w.alloc (.deferred (some []))).alloc (.loop st)):=by
 have sA:Step M1 w (ins M1 w.heap.size) (w.alloc (.deferred (some []))) aC:=(cU M1 w _).own (bj _) (by simp);have sB:Step (ins M1 w.heap.size) (w.alloc (.deferred (some []))) (ins (ins M1 w.heap.size) (w.heap.size+1)) ((w.alloc (.deferred (some []))).alloc (.loop st)) aC:=(cU _ _ _).own (by simp) (by simp);have hD:(w.alloc (.deferred (some []))).heap[w.heap.size]? =some (.deferred (some [])):=cq w _;have hR:((w.alloc (.deferred (some []))).alloc (.loop st)).heap[w.heap.size+1]? =some (.loop st):=by have:=cq (w.alloc (.deferred (some []))) (.loop st);rwa [World.size_alloc]at this
 exact⟨_,sB.lt (sA.lt hM),(S.ay sA).ay sB,hR,.inl rfl,sB.aI hD,.inr (.inl rfl),hX (hX hx sA (fun b h=>h.elim)) sB (fun b h=>h.elim),hK (hK hk sA.le) sB.le,(hd.step sA (fun b h=>h.elim)).step sB (fun b h=>h.elim),S.size,fun hn=>by have:=ak (hd.at_ _ hn).1;omega⟩
def kS (n b7 os ow:Nat) (P:Nat→Bool) (M:aA) (w:World):Prop:=w.heap[b7]? =some (.cells #[.pointer (some ⟨os,0,none⟩)] 88 (0,0))∧M b7∧∃ws,ek 161 165 n ws M w os ow∧∀j,bit ws j=P j
theorem kS.kept {n b7 os ow:Nat} {P:Nat→Bool}:Cq 216 (kS n b7 os ow P):=fun⟨g,m,ws,hs,hp⟩ s hN=>by
 refine⟨s.bF g (fun hn=>absurd (hN _ hn _ _ _ g) (by decide)),(s.mem _ (ak g)).2 m,ws,hs.step s (fun hn=>absurd (hN _ hn _ _ _ hs.s) (by decide)) (fun hn=>absurd (hN _ hn _ _ _ hs.w) (by decide)),hp⟩
theorem kS.eq {n b7 os ow:Nat} {P Q:Nat→Bool} {M:aA} {w:World} (h:kS n b7 os ow P M w) (e:∀j,P j=Q j):kS n b7 os ow Q M w:=⟨h.1,h.2.1,h.2.2.choose,h.2.2.choose_spec.1,fun j=>(h.2.2.choose_spec.2 j).trans (e j)⟩
theorem kS.cut {n b7 os ow:Nat} {P:Nat→Bool} {M:aA} {w w':World} {qL:List Nat} {i:Int} (h:kS n b7 os ow P M w) (hs:ek 161 165 n qL M w' os ow) (s:Step M w M w' (fun b=>b=ow)) (how:∃ws,w.heap[ow]? =some (.cells (lQ ws) 165 (0,0))) (hb:∀j:Nat,bit qL j=(P j&&decide ((j:Int)≠i))):kS n b7 os ow (fun j=>P j&&decide ((j:Int)≠i)) M w':=by
 obtain⟨g,m,_⟩:=h;obtain⟨ws,hw⟩:=how;exact⟨s.bF g (fun(e:b7=ow)=>by rw[e,hw]at g;injection g with g;injection g with _ g;exact absurd g (by decide)),m,qL,hs,hb⟩
end Go.K
namespace Go.K
open Go.Proofs
namespace TKLiveB
theorem tW:TI Tryz.prog 51 (.agg #[(.string ⟨#[]⟩),(.string ⟨#[]⟩),(.int .i64 0)]) 3 40:=by unfold TI;kernel_rfl
theorem I88:TI Tryz.prog 88 (.pointer none) 1 8:=by unfold TI;kernel_rfl
theorem Yq:Enters Tryz.prog 67:=enters Tryz.func67 rfl (by decide)
theorem SM:Enters Tryz.prog 70:=enters Tryz.func70 rfl (by decide)
theorem Ye:Enters Tryz.prog 72:=enters Tryz.func72 rfl (by decide)
theorem YO:Enters Tryz.prog 101:=enters Tryz.func101 rfl (by decide)
theorem RW:Enters Tryz.prog 102:=enters Tryz.func102 rfl (by decide)
theorem MY:Enters Tryz.prog 122:=enters Tryz.func122 rfl (by decide)
end TKLiveB
open TKLiveB
set_option maxRecDepth 10000
abbrev qw (s:Se) (ls:List (List Po)) (e:Er):List Int:=mu (lz s.2.2.1 ls (de e.1)) s.2.1 e.2
def ko (n:Nat) (s:Se) (ls:List (List Po)) (upto:Int) (es:List Er) (j:Nat):Bool:=decide (j<n)&&decide (vQ s.2.1 j<upto)&& !(es.any fun e=>decide (e.2<upto)&&decide ((j:Int)∈qw s ls e))
theorem vX {n:Nat} {s:Se} {ls:List (List Po)} {upto:Int} {es:List Er} {e:Er} (j:Nat):ko n s ls upto (es++[e]) j=(ko n s ls upto es j&& !(decide (e.2<upto)&&decide ((j:Int)∈qw s ls e))):=by
 unfold ko;rw[List.any_append];simp only[List.any_cons,List.any_nil,Bool.or_false,Bool.not_or,Bool.and_assoc]
theorem pK {n:Nat} {s:Se} {ls:List (List Po)} {upto:Int} {es:List Er} {j:Nat} (h:ko n s ls upto es j=true):j<n:=by
 unfold ko at h;simp only[bC,decide_eq_true_eq]at h;exact h.1.1
def rv (n:Nat) (s:Se) (upto:Int) (i j:Nat):Bool:=decide (j<n)&&(decide (i≤j)||decide (vQ s.2.1 j<upto))
theorem Jc {n:Nat} {s:Se} {upto:Int} {i:Nat} (h:upto≤vQ s.2.1 (i:Int)) (j:Nat):(rv n s upto i j&&decide ((j:Int)≠(i:Int)))=rv n s upto (i+1) j:=by
 unfold rv;by_cases e:j=i
 ·subst e;rw[decide_eq_false (show¬(j:Int)≠(j:Int)from fun h=>h rfl),decide_eq_false (show¬j+1≤j by omega),decide_eq_false (show¬vQ s.2.1 (j:Int)<upto by omega)];simp
 ·rw[decide_eq_true (show(j:Int)≠(i:Int) by omega),ie];congr 2;exact decide_eq_decide.2 (by omega)
theorem G8 {n:Nat} {s:Se} {upto:Int} {i:Nat} (h: ¬upto≤vQ s.2.1 (i:Int)) (j:Nat):rv n s upto i j=rv n s upto (i+1) j:=by
 unfold rv;by_cases e:j=i
 ·subst e;rw[decide_eq_true (show vQ s.2.1 (j:Int)<upto by omega)];simp
 ·congr 2;exact decide_eq_decide.2 (by omega)
theorem Jd {n:Nat} {s:Se} {ls:List (List Po)} {upto:Int} (j:Nat):rv n s upto n j=ko n s ls upto [] j:=by
 unfold rv ko;by_cases h:j<n
 ·rw[decide_eq_false (show¬n≤j by omega)];simp
 ·rw[decide_eq_false h];simp
abbrev Ni (bs:Nat) (v0:Value) (s:Se) (u:Value) (e:Er):aA→World→Prop:=fun M w=>w.heap[bs]? =some (.cells #[v0] 25 (0,0))∧¬M bs∧ch RT.se M w v0 s∧ch RT.er M w u e
abbrev zP (bs:Nat) (v0:Value) (s:Se) (u:Value) (e:Er) (es:List Er) (ve:Value):aA→World→Prop:=fun M w=>Ni bs v0 s u e M w∧(RT.er.sl).V M w es ve
theorem gS {bs:Nat} {v0 u ve:Value} {s:Se} {e:Er} {es:List Er} {M M':aA} {w w':World} (h:zP bs v0 s u e es ve M w) (l:Le M w M' w'):zP bs v0 s u e es ve M' w':=⟨nA h.1 l,h.2.le l⟩
def uH (n:Nat) (s:Se) (ls:List (List Po)) (upto:Int) (es:List Er) (e:Er) (i j:Nat):Bool:=ko n s ls upto es j&& !decide ((j:Int)∈(qw s ls e).take i)
theorem Je {n:Nat} {s:Se} {ls:List (List Po)} {upto:Int} {es:List Er} {e:Er} {i:Nat} {x:Int} (h:(qw s ls e)[i]? =some x) (j:Nat):(uH n s ls upto es e i j&&decide ((j:Int)≠x))=uH n s ls upto es e (i+1) j:=by
 unfold uH;rw[cd,h,cZ,Bool.and_assoc];congr 1;by_cases h1:(j:Int)∈(qw s ls e).take i<;>by_cases h2:(j:Int)=x<;>simp[h1,h2]
theorem Jf {n:Nat} {s:Se} {ls:List (List Po)} {upto:Int} {es:List Er} {e:Er} (he:e.2<upto) (j:Nat):uH n s ls upto es e (qw s ls e).length j=ko n s ls upto (es++[e]) j:=by
 unfold uH;rw[vX,bp (bj _),decide_eq_true he,dw]
theorem Nj {n:Nat} {s:Se} {ls:List (List Po)} {upto:Int} {es:List Er} {e:Er} {i j:Nat} (h:uH n s ls upto es e i j=true):j<n:=by
 unfold uH at h;rw[bC]at h;exact pK h.1
theorem qx {M:aA} {s:Se} {ls:List (List Po)} {es:List Er} {upto:Int} {v0 ve:Value} (w0:World) (hM:Lt M w0) (hs:ch RT.se M w0 v0 s) (xC:xp s.2.2.1) (DK:s.2.2.2=ls.map gK) (I2:s.2.2.1.length=ls.length) (hn:s.1.length≤1000000) (he:(RT.er.sl).V M w0 es ve) (ua:es.length≤1000000) (xU:∀e∈es,I4 (lz s.2.2.1 ls (de e.1))):
  Spec Tryz.prog 48 #[v0,ve,.int .i64 upto] w0 (fun v w=>∃os ow ws M',v= .pointer (some ⟨os,0,none⟩)∧w0.heap.size≤os∧w0.heap.size≤ow∧Step M w0 M' w aC∧ek 161 165 s.1.length ws M' w os ow∧∀j,bit ws j=ko s.1.length s ls upto es j):=by
 have jL:=hM;refine mU (args:=[_,_,_]) (fn:=Tryz.f48) Tryz.func48 rfl (n:=48) Tryz.ntmps48 ?_;have S:Step M w0 M w0 aC:=(an _ _).cc (fun _ h=>h.elim) (fun _ h=>h.elim);refine aj (ah (ai rfl rfl (ad (aj (ah (ae rfl rfl ?_))))));refine aP rfl rfl Yq (vR _ hs) (fun r wc hc=>?_);obtain⟨rfl,hw⟩:=hc;obtain rfl:w0=wc:=hw.symm;refine aP rfl rfl YO (Dz (M:=M) (n:=s.1.length) (by omega)) (fun r2 w2 hc=>?_);obtain⟨os,ow,ws,M2,rfl,z1,z2,s2,oP,zQ⟩:=hc;replace hs:=hs.le (by decide) s2.le;replace he:=he.le s2.le;replace hM:=s2.lt hM;have:=S.size;replace S:=S.ay s2;refine eW M2 I88 rfl (fun jF xc PI PJ gg s1_3=>?_);obtain⟨je,np⟩:∃M',M'=ins M2 jF:=⟨_,rfl⟩;rw[←np]at s1_3;have ff:je jF:=by rw[np];exact .inl rfl
 change xc.heap[jF]? =some (.cells #[.pointer none] _ _)at gg;replace hs:=hs.le (by decide) s1_3.le;replace he:=he.le s1_3.le;replace hM:=s1_3.lt hM;have:=S.size;replace S:=S.ay s1_3;refine bQ (M:=je) I88 rfl rfl gg rfl (rfl) ff (fun H0 Bd gL=>?_)
 try simp only[List.setIfInBounds_toArray,List.set_cons_zero,List.set_cons_succ]at Bd
 have:=ak gg;replace ff:=(gL.mem _ this).2 ff;replace hs:=hs.le (by decide) gL.le;replace he:=he.le gL.le;replace hM:=gL.lt hM;have:=S.size;replace S:=S.trans gL (fun k hk h=>by have h:_=_:=h;subst h;first|(exfalso;omega)|(show _≤_;omega)|exact⟨by first|omega|assumption,(S.mem _ hk).1 ((gL.mem _ (ak gg)).1 ff)⟩|exact .inl rfl|exact .inr rfl|exact .inr (.inl rfl)|exact .inr (.inr rfl)|exact rfl);have qP:=Bd;clear gg;have gg:=qP;clear qP;refine ad (aj (aj (ah (ae rfl rfl ?_))));refine aP rfl rfl Yq (vR _ hs) (fun r wc hc=>?_);obtain⟨rfl,rfl⟩:=hc;refine ae rfl rfl (ad (a8 ?_));refine dC (σ:=Nat) (fun i=>[(0,v0),(1,ve),(2,.int .i64 upto),(7,.pointer (some ⟨jF,0,none⟩)),(16,.int .i64 (s.1.length:Int)),(17,.int .i64 (i:Int))]) (fun i w=>∃M1,Lt M1 w∧Step M w0 M1 w aC∧kS s.1.length jF os ow (rv s.1.length s upto i) M1 w∧ch RT.se M1 w v0 s∧(RT.er.sl).V M1 w es ve∧i≤s.1.length) (fun i=>s.1.length-i) 0 (.cons rfl (.cons rfl (.cons rfl (.cons rfl (.cons rfl (.cons rfl .nil)))))) ?_ ?_
 ·exact⟨_,hM,S,⟨gg,ff,ws,(oP.step s1_3 (fun h=>h) (fun h=>h)).step gL (fun(h:os=jF)=>by have:=ak oP.s;omega) (fun(h:ow=jF)=>by have:=ak oP.w;omega),fun j=>by rw[zQ j];unfold rv;simp⟩,hs,he,bG _⟩
 ·clear S hs he hM gg ff;rintro i w ⟨M1,hM,S,hx,hs,he,hi⟩;refine aj (ah (cf rfl rfl rfl (ad (aj ?_))));refine bI rfl (fun c3=>?_) (fun c3=>?_)
  ·refine aU (aj (a8 (aj (ah (ae rfl rfl (ai rfl rfl (ad (aj (ah (ae rfl rfl (ae rfl rfl ?_)))))))))));refine aP rfl rfl SM (vS _ hs) (fun r wc hc=>?_);obtain⟨rfl,rfl⟩:=hc;refine ae rfl rfl (dr rfl rfl rfl (ad ?_));refine bI rfl (fun c5=>?_) (fun c5=>?_)
   ·refine ah ?_;obtain⟨g7,m7,wsi,oP,zQ⟩:=hx;refine aE kV rfl rfl rfl g7 rfl (bu (v':= .pointer (some ⟨os,0,none⟩)) rfl (ae rfl rfl ?_));refine aP rfl rfl RW (zN oP (i:=(i:Int)) (fun j hj=>by rw[zQ j]at hj;unfold rv at hj;simp only[bC,decide_eq_true_eq]at hj;exact hj.1)) (fun r6 w6 hc=>?_);obtain⟨qL,G9,DB,s6⟩:=hc;have hx:=kS.cut (P:=rv s.1.length s upto i) ⟨g7,m7,wsi,oP,zQ⟩ G9 s6 ⟨_,oP.w⟩ (fun j=>by rw[DB j,zQ j]);replace hs:=hs.le (by decide) s6.le;replace he:=he.le s6.le;replace S:=S.cu s6 (fun b (hb:b=ow)=>by omega);replace hM:=s6.lt hM;refine ad (ah (bA rfl rfl rfl (by omega) (ae rfl rfl (ad ?_))));refine⟨rfl,i+1,(.cons rfl (.cons rfl (.cons rfl (.cons rfl (.cons rfl (.cons rfl .nil)))))),?_,?_⟩
    ·exact⟨M1,hM,S,hx.eq (Jc c5),hs,he,by omega⟩
    ·omega
   ·refine aU (ah (bA rfl rfl rfl (by omega) (ae rfl rfl (ad ?_))));refine⟨rfl,i+1,(.cons rfl (.cons rfl (.cons rfl (.cons rfl (.cons rfl (.cons rfl .nil)))))),?_,?_⟩
    ·exact⟨M1,hM,S,hx.eq (G8 c5),hs,he,by omega⟩
    ·omega
  ·refine cM (aj (aj (ah (ae rfl rfl (bU gj rfl he rfl (ae rfl rfl (ad (a8 ?_))))))));obtain rfl:i=s.1.length:=by omega
   replace hx:=hx.eq (Jd (ls:=ls));refine T.RU (σ:=Nat×List Nat) (fun q=>[(0,v0),(2,.int .i64 upto),(7,.pointer (some ⟨jF,0,none⟩)),(29,ve),(30,.int .i64 (es.length:Int)),(31,.int .i64 (q.1:Int))]) (fun q=>q.2.map mark) (fun q w=>∃M1,Lt M1 w∧Step M w0 M1 w aC∧kS s.1.length jF os ow (ko s.1.length s ls upto (es.take q.1)) M1 w∧ch RT.se M1 w v0 s∧(RT.er.sl).V M1 w es ve∧fp M1 w w0.heap.size q.2∧q.1≤es.length) (fun q=>es.length-q.1) (0,[]) (.cons rfl (.cons rfl (.cons rfl (.cons rfl (.cons rfl (.cons rfl .nil)))))) rfl ?_ ?_
   ·exact⟨_,hM,S,hx,hs,he,fp.nil _ _ _,bG _⟩
   ·clear S hs he hM hx;rintro⟨k,Ds⟩ w ⟨M1,hM,S,hx,hs,he,Kg,hk⟩;dsimp only at hx Kg hk ⊢;refine aj (ah (cf rfl rfl rfl (ad (aj ?_))));refine bI rfl (fun c9=>?_) (fun c9=>?_)
    ·refine aU (aj (a8 (aj (ah ?_))));obtain⟨e,uJ⟩:∃e,es[k]? =some e:=⟨_,aL (by omega)⟩;refine dq (M:=M1) gj tW rfl rfl rfl he (aq _ _) (by omega) (fun afM e' G1 RX=>?_);rw[az]at G1;obtain rfl:=bM (uJ.symm.trans G1);refine cx (M:=M1) (A:=RT.er) iD rfl tW (by decide) rfl rfl rfl RX (aq _ _) (fun afN hve=>?_);have YP:=hve;obtain⟨rfl,⟨YQ,YR⟩,afP⟩:=GP YP;refine ov (A:=RT.er) (M:=M1) tW rfl rfl rfl rfl rfl (by assumption) (aq _ _) hM (fun Q2 Q3 qt pF Q4=>?_);replace hs:=hs.le (by decide) pF.le;replace he:=he.le pF.le;replace hM:=pF.lt hM;have:=S.size;replace S:=S.ay pF;refine ad (aj (aj (ah ?_)));replace hx:=kS.kept hx pF (fun b h=>h.elim);replace Kg:=Kg.step pF (fun b h=>h.elim);refine aH (M:=M1) (A:=RT.er) (B:=RT.int .i64) iD rfl rfl I3 (by decide) X9 rfl rfl (by decide) qt (aq _ _) (fun afQ RY=>?_);refine cb (M:=M1) ar rfl rfl RY (aq _ _) (fun hez=>?_);refine bu (v':= .int .i64 e.2) rfl (ae rfl rfl (dr rfl rfl rfl (ad ?_)));refine bI rfl (fun KW=>?_) (fun KW=>?_)
     ·refine cM (ah (bA rfl rfl rfl (by omega) (ae rfl rfl (ad ?_))));refine⟨(k+1,Ds),rfl,(.cons rfl (.cons rfl (.cons rfl (.cons rfl (.cons rfl (.cons rfl .nil)))))),?_,?_⟩
      ·exact⟨_,hM,S,hx.eq (fun j=>by dsimp only;rw[cd,uJ,cZ,vX,decide_eq_false (show¬e.2<upto by omega)];simp),hs,he,Kg,by dsimp only;omega⟩
      ·dsimp only;omega
     ·refine aU (aj (ah (ae rfl rfl ?_)));refine cx (M:=M1) (A:=RT.er) iD rfl tW (by decide) rfl rfl rfl qt (aq _ _) (fun afR RZ=>?_);refine aP rfl rfl Ye (tJ _ hM hs RZ) (fun U0 Hl hc=>?_);obtain⟨bs,u,rfl,Fw,hu,SI,nP⟩:=hc;have Yj:zP bs v0 s u e es ve M1 Hl:=⟨⟨Fw,fun h=>by have:=hM _ h;omega,hs.le (by decide) nP.le,hu⟩,he.le nP.le⟩;replace hx:=kS.kept hx nP (fun b h=>h.elim);replace Kg:=Kg.step nP (fun b h=>h.elim);replace hs:=hs.le (by decide) nP.le;replace he:=he.le nP.le;replace qt:=qt.le (by decide) nP.le;replace hM:=nP.lt hM;have:=S.size;replace S:=S.ay nP;refine ad (a8 ?_);refine T.range (gf:=122) (lb:=[.pointer (some ⟨bs,0,none⟩),u].toArray) rfl MY (fun rec mT=>?_);obtain⟨D,hD⟩:∃D,D=Hl.heap.size:=⟨_,rfl⟩;obtain⟨Mr,h0⟩:=YN (X:=kS s.1.length jF os ow (uH s.1.length s ls upto (es.take k) e 0)) (K:=zP bs v0 s u e es ve) (C:=216) (st:=rec .ready none) gS kS.kept hM S (hx.eq (fun j=>by unfold uH;simp)) Yj Kg;rw[←hD]at mT h0 ⊢;refine Spec.mono (re (ls:=ls) (u:=u) xC DK I2 (xU e (aM uJ)) YQ YR (M:=Mr) (J:=fun i M' w=>G7 (kS s.1.length jF os ow (uH s.1.length s ls upto (es.take k) e i)) (zP bs v0 s u e es ve) M w0 Ds D (rec .ready none) M' w) (Jx:=fun _=>False) _ (fun i M' w h=>⟨h.lt,h.k.1⟩) (fun i M' w M2 w2 N h s hN=>h.GR gS kS.kept s (fun b hb=>⟨by have h1:=(hN b hb).1;have h2:=h.z;simp at h1;omega,(hN b hb).2⟩)) (fun i M' wr x h Jk=>?_) h0) (fun _ w3 h3=>?_)
      ·refine k5 (ps:=[42]) (vs:=[.int .i64 x]) mT h.r rfl (by decide) (ah (ai rfl rfl (ad ?_)));refine⟨rfl,h.r,?_⟩;have h4:=h.mE gS kS.kept (st':=rec .busy none);have s4:Step M' wr M' (wr.putObj (D+1) (.loop (rec .busy none))) (fun k=>k=D+1):=dH h.mr;generalize wr.putObj (D+1) _=w4 at h4 s4 ⊢;refine a8 (ah ?_);obtain⟨g7,m7,wsi,oP,zQ⟩:=h4.x;refine aE kV rfl rfl rfl g7 rfl (bu (v':= .pointer (some ⟨os,0,none⟩)) rfl (ae rfl rfl ?_));refine aP rfl rfl RW (zN oP (i:=x) (fun j hj=>by rw[zQ j]at hj;exact Nj hj)) (fun r5 w5 hc=>?_);obtain⟨qL,G9,DB,s5⟩:=hc;refine ad ?_;have x5:=kS.cut h4.x G9 s5 ⟨_,oP.w⟩ (fun j=>by rw[DB j,zQ j]);have h5:=h4.RV gS s5 (fun b (hb:b=ow)=>by omega) (fun b (hb:b=ow) _=>by rw[hb];exact⟨_,_,_,oP.w⟩) (x5.eq (Je Jk));have h8:=h5.mE gS kS.kept (st':=rec .ready none);have s8:=dH (w:=w5) (o:= .loop (rec .ready none)) h5.mr;refine⟨h5.r,true,rfl,fun _=>⟨M',fun b=>b=D+1∨b=ow,h8,((s4.cc (fun b hb=> .inl hb) (fun b hb=>?_)).trans s5 (fun b _ hb=> .inr hb)).trans s8 (fun b _ hb=> .inl hb),fun b hb cs hc=>?_⟩,fun h=>by cases h⟩
       ·obtain⟨_,_,wz,hz,_⟩:=h.x;rcases hb with rfl|rfl
        ·exact h.mr
        ·exact hz.mw
       ·obtain⟨_,_,wz,hz,_⟩:=h.x;rcases hb with rfl|rfl
        ·rw[h.r]at hc;cases hc
        ·rw[hz.w]at hc;injection hc with hc;injection hc with _ hc;exact absurd hc (by decide)
      ·obtain⟨M',h⟩:=h3.resolve_right id;left;refine⟨h.r,?_⟩;have h5:=h.mE gS kS.kept (st':=rec .exhausted none);generalize w3.putObj (D+1) _=wE at h5 ⊢;refine ah (bA rfl rfl rfl (by omega) (ae rfl rfl (ad ?_)));refine⟨(k+1,D::Ds),rfl,(.cons rfl (.cons rfl (.cons rfl (.cons rfl (.cons rfl (.cons rfl .nil)))))),?_,?_⟩
       ·exact⟨_,h5.lt,h5.S,h5.x.eq (fun j=>by dsimp only;rw[cd,uJ,cZ];exact Jf (by omega) j),h5.k.1.2.2.1,h5.k.2,h5.ms.cons h5.dn h5.d h5.md h5.z,by dsimp only;omega⟩
       ·dsimp only;omega
    ·refine cM (aj (ah ?_));obtain⟨g7,m7,wsf,oP,R0⟩:=hx;refine aE kV rfl rfl rfl g7 rfl (bu (v':= .pointer (some ⟨os,0,none⟩)) rfl (ai rfl rfl (ad (aJ ?_))));exact Nh rfl rfl Kg (fun w' s'=>⟨os,ow,wsf,M1,rfl,by omega,by omega,S.cu s' (fun b hb=>hb.2.1),oP.step s' (fun hn=>by have:=hn.2.2;rw[oP.s]at this;cases this) (fun hn=>by have:=hn.2.2;rw[oP.w]at this;cases this),fun j=>by rw[R0 j,bp (by omega)]⟩)
end Go.K
namespace Go.K
open Go.Proofs
namespace TKLater
theorem tW:TI Tryz.prog 51 (.agg #[(.string ⟨#[]⟩),(.string ⟨#[]⟩),(.int .i64 0)]) 3 40:=by unfold TI;kernel_rfl
theorem SP:placesOf Tryz.prog 51=[(0,2),(2,1)].map some:=by kernel_rfl
theorem N7:Enters Tryz.prog 15:=enters Tryz.func15 rfl (by decide)
theorem YS:Enters Tryz.prog 21:=enters Tryz.func21 rfl (by decide)
theorem E24:Enters Tryz.prog 24:=enters Tryz.func24 rfl (by decide)
theorem YT:Enters Tryz.prog 26:=enters Tryz.func26 rfl (by decide)
end TKLater
open TKLater
set_option maxRecDepth 10000
theorem By (L:List En):(Gy (iw L)).2.2.2=((keysOf L).map (pk L)).map gK:=rfl
theorem Bz (L:List En):(Gy (iw L)).2.2.1.length=((keysOf L).map (pk L)).length:=by rw[db];rfl
theorem qy {L:List En} (h:zx (-1) L=true) (hn:L.length≤1000000) (k:List UInt8):I4 (lz (Gy (iw L)).2.2.1 ((keysOf L).map (pk L)) k):=by
 show I4 (lz (keysOf L) _ _);rw[Bk];exact GQ (ny h) hn _
end Go.K
namespace Go.K
open Go.Proofs
namespace TKJoins15
theorem RL:TI Tryz.prog 49 (.agg #[(.string ⟨#[]⟩),(.string ⟨#[]⟩),(.int .i64 0)]) 3 40:=by unfold TI;kernel_rfl
theorem tW:TI Tryz.prog 51 (.agg #[(.string ⟨#[]⟩),(.string ⟨#[]⟩),(.int .i64 0)]) 3 40:=by unfold TI;kernel_rfl
theorem N7:Enters Tryz.prog 15:=enters Tryz.func15 rfl (by decide)
theorem YS:Enters Tryz.prog 21:=enters Tryz.func21 rfl (by decide)
theorem YT:Enters Tryz.prog 26:=enters Tryz.func26 rfl (by decide)
theorem E47:Enters Tryz.prog 47:=enters Tryz.func47 rfl (by decide)
theorem SR:Enters Tryz.prog 48:=enters Tryz.func48 rfl (by decide)
theorem YU:Enters Tryz.prog 51:=enters Tryz.func51 rfl (by decide)
theorem R1:Enters Tryz.prog 52:=enters Tryz.func52 rfl (by decide)
theorem E55:Enters Tryz.prog 55:=enters Tryz.func55 rfl (by decide)
end TKJoins15
open TKJoins15
set_option maxRecDepth 10000
theorem qz {ws vs:List Nat} (h:∀j,bit ws j=bit vs j):∀p,low ws p=low vs p
 |0=>rfl
 |p+1=>by rw[low,low,h p,qz h p]
end Go.K
namespace Go.K
open Go.Proofs
namespace TKLess15
theorem tW:TI Tryz.prog 51 (.agg #[(.string ⟨#[]⟩),(.string ⟨#[]⟩),(.int .i64 0)]) 3 40:=by unfold TI;kernel_rfl
theorem N7:Enters Tryz.prog 15:=enters Tryz.func15 rfl (by decide)
theorem YS:Enters Tryz.prog 21:=enters Tryz.func21 rfl (by decide)
theorem YT:Enters Tryz.prog 26:=enters Tryz.func26 rfl (by decide)
theorem E47:Enters Tryz.prog 47:=enters Tryz.func47 rfl (by decide)
theorem SR:Enters Tryz.prog 48:=enters Tryz.func48 rfl (by decide)
theorem YU:Enters Tryz.prog 51:=enters Tryz.func51 rfl (by decide)
theorem R1:Enters Tryz.prog 52:=enters Tryz.func52 rfl (by decide)
theorem E55:Enters Tryz.prog 55:=enters Tryz.func55 rfl (by decide)
end TKLess15
open TKLess15
set_option maxRecDepth 10000
theorem Ha {n:Nat} {s:Se} {ls:List (List Po)} {upto:Int} (xs:List Er) (k j:Nat):(ko n s ls upto xs j&&ko n s ls upto (xs.take k) j)=ko n s ls upto xs j:=by
 have h:ko n s ls upto xs j=(ko n s ls upto (xs.take k) j&&ko n s ls upto (xs.drop k) j):=by
  unfold ko
  conv=>lhs;rw[←List.take_append_drop k xs,List.any_append]
  cases decide (j<n)<;>cases decide (vQ s.2.1 (j:Int)<upto)<;>simp[Bool.not_or]
 rw[h]
 cases ko n s ls upto (xs.take k) j<;>simp
theorem Jg {n:Nat} {s:Se} {ls:List (List Po)} {upto:Int} (xs:List Er) (j:Nat):ko n s ls upto xs.reverse j=ko n s ls upto xs j:=by
 unfold ko;rw[List.any_reverse]
theorem tO {M:aA} {l:List Dc} {er:List Er} {v0 v1:Value} {a upto:Int} {w0:World} (hM:Lt M w0) (hv:(RT.dc.sl).V M w0 l v0) (nZ:(RT.er.sl).V M w0 er v1) (ha: -9223372036854775808≤a∧a≤9223372036854775807) (hx: -9223372036854775808≤upto∧upto≤9223372036854775807) (h0: ¬M 0) (G2:∃e fr,w0.heap[0]? =some (.cells (Et.map fun(k:Nat)=>Value.int .u8 (k:Int)).toArray e fr)):
  Spec Tryz.prog 11 #[v0,v1,.int .i64 a,.int .i64 upto] w0 (fun v w=>v= .bool true∧Step M w0 M w aC):=by
 have jL:=hM;have hgl:=jM l 0 2 10;obtain⟨fu,_⟩:=zK l (show(0:Int)≤0 by decide) (show(1:Int)≤2 by decide) 10;obtain⟨SS,SU,Kh⟩:=G2;have Za:=dV nZ;refine aX (args:=[_,_,_,_]) (fn:=Tryz.f11) Tryz.func11 rfl (n:=96) Tryz.ntmps11 ?_;have S:Step M w0 M w0 aC:=(an _ _).cc (fun _ h=>h.elim) (fun _ h=>h.elim);refine aj (ah (ai rfl rfl (ad (aj (ah (ae rfl rfl ?_))))));refine aP rfl rfl YS (AH (most:=10) (a:=0) (s:=2) _ hM hv (by decide) (by decide) (by decide)) (fun r1 w1 hc=>?_);obtain⟨hg,s1⟩:=hc;replace hv:=hv.le s1.le;replace nZ:=nZ.le s1.le;replace hM:=s1.lt hM;have:=S.size;replace S:=S.ay s1;refine ai rfl rfl (ad (aj (ah (ae rfl rfl ?_))));refine aP rfl rfl N7 (tK _ hM hg Bv (by omega) fu) (fun r2 w2 hc=>?_);obtain⟨sa,rfl,hs,s2⟩:=hc;obtain⟨aa,rfl⟩:=hs.jb;replace nZ:=nZ.le s2.le;replace hg:=hg.le s2.le;replace hM:=s2.lt hM;have:=S.size;replace S:=S.ay s2;refine ae rfl rfl (bP rfl rfl rfl (bP rfl rfl rfl (ai rfl rfl (ai rfl rfl (ad (aj (aj (ah (ae rfl rfl (Rg.so Tryz.underlying25 rfl rfl rfl (ad ?_)))))))))));refine T.zX rfl ((by simp)) (aU (aj (ah (ae rfl rfl ?_))));refine aP rfl rfl E47 (Du _ hM nZ (dV nZ)) (fun r5 w5 hc=>?_);obtain⟨he,s5⟩:=hc;have ua:=List.length_take_le 20 er;generalize List.take 20 er=es at he ua;replace nZ:=nZ.le s5.le;replace hs:=hs.le (by decide) s5.le;replace hM:=s5.lt hM;have:=S.size;replace S:=S.ay s5;refine ai rfl rfl (ad ?_);refine T.wx [(3,.int .i64 upto),(10,.pointer (some aa)),(12,r5),(2,.int .i64 (if a<0 then-(a+1)else a))] ?_ ?_
 ·refine aj (ah (ae rfl rfl (cf rfl rfl rfl (ad ?_))));refine bI rfl (fun c6=>?_) (fun c6=>?_)
  ·refine ah (ae rfl rfl (bA rfl rfl rfl (by omega) (Rg.neg rfl rfl (by omega) (ai rfl rfl (ad ?_)))));exact⟨rfl,rfl,rfl,.cons rfl (.cons rfl (.cons rfl (.cons (by first|exact congrArg (fun z=>some (Value.int .i64 z)) (if_pos c6).symm|exact congrArg (fun z=>some (Value.int .i64 z)) (if_neg c6).symm) (.nil))))⟩
  ·refine aU ?_;exact⟨rfl,rfl,rfl,.cons rfl (.cons rfl (.cons rfl (.cons (by first|exact congrArg (fun z=>some (Value.int .i64 z)) (if_pos c6).symm|exact congrArg (fun z=>some (Value.int .i64 z)) (if_neg c6).symm) (.nil))))⟩
 ·refine aj (ah ?_);obtain⟨n2,SE,afT⟩:∃n2:Nat,(if a<0 then-(a+1)else a)=(n2:Int)∧n2≤9223372036854775807:=⟨(if a<0 then-(a+1)else a).toNat,by split<;>omega,by split<;>omega⟩;rw[SE];refine ae rfl rfl (ae rfl rfl (bU gj rfl he rfl (bA rfl rfl rfl (by omega) (Rg.rh rfl rfl rfl (by omega) ?_))));obtain⟨m,hm,ZC⟩:∃m:Nat,(n2:Int)%((es.length:Int)+1)=(m:Int)∧m≤es.length:=⟨((n2:Int)%((es.length:Int)+1)).toNat,(lD (Int.emod_nonneg _ (by omega))).symm,by have:=Int.emod_lt_of_pos (n2:Int) (show(0:Int)<(es.length:Int)+1 by omega);omega⟩;rw[hm];refine ai rfl rfl (ad (aj (ah (ae rfl rfl (ae rfl rfl (ae rfl rfl ?_))))));refine aP rfl rfl SR (qx (ls:=(keysOf (fN l 0 2 10)).map (pk (fN l 0 2 10))) _ hM hs (jG _) (By _) (Bz _) (by show(List.map _ _).length≤_;rw[db];omega) he (by omega) (fun e _=>qy fu (by omega) _)) (fun r9 w9 hc=>?_);obtain⟨os9,ow9,ws9,M9,rfl,za9,zb9,s9,ix,zR⟩:=hc;replace hs:=hs.le (by decide) s9.le;replace he:=he.le s9.le;replace hM:=s9.lt hM;have:=S.size;replace S:=S.ay s9;refine ai rfl rfl (ad (aj (ah (ae rfl rfl (ae rfl rfl (ae rfl rfl ?_))))));refine Rg.BH (M:=M9) gj tW rfl rfl rfl he (by omega) (fun afV Hb=>?_);rw[az]at Hb;refine ae rfl rfl ?_;refine aP rfl rfl SR (qx (ls:=(keysOf (fN l 0 2 10)).map (pk (fN l 0 2 10))) _ hM hs (jG _) (By _) (Bz _) (by show(List.map _ _).length≤_;rw[db];omega) Hb (by rw[bS];omega) (fun e _=>qy fu (by omega) _)) (fun Zl NM hc=>?_);obtain⟨YV,afW,afX,M10,rfl,afY,afZ,pq,tP,Nk⟩:=hc;replace ix:=ix.step pq (fun h=>h) (fun h=>h);clear Hb;replace hs:=hs.le (by decide) pq.le;replace he:=he.le pq.le;replace hM:=pq.lt hM;have:=S.size;replace S:=S.ay pq;refine ai rfl rfl (ad (aj (ah (ai rfl rfl (ad (aj (aj (ah (ae rfl rfl (bU gj rfl he rfl (fX rfl rfl rfl (by omega) ?_)))))))))))
  refine ai rfl rfl (ad (a8 ?_));refine dC (σ:=Nat×Value) (fun q=>[(3,.int .i64 upto),(10,.pointer (some aa)),(12,r5),(13,.pointer (some ⟨os9,0,none⟩)),(14,.pointer (some ⟨YV,0,none⟩)),(15,q.2),(16,.int .i64 ((es.length:Int)-1-(q.1:Int)))]) (fun q w=>∃M1,Lt M1 w∧Step M10 NM M1 w aC∧Own RT.er 51 M1 w NM.heap.size q.2 (es.reverse.take q.1)∧(RT.er.sl).V M1 w es r5∧q.1≤es.length) (fun q=>es.length-q.1) (0,.slice none 0 0) (.cons rfl (.cons rfl (.cons rfl (.cons rfl (.cons rfl (.cons rfl (.cons (congrArg (fun z=>some (Value.int .i64 z)) (by simp)) .nil))))))) ?_ ?_
  ·exact⟨M10,hM,an _ _,ec _ _ _ _ _,he,bG _⟩
  ·have Nl:=hM;have S10:=S;clear S hM he;rintro⟨k,u⟩ w ⟨M1,hM,S,ho,he,hk⟩;dsimp only at ho hk ⊢;refine aj (aj (ah (ae rfl rfl (dr rfl rfl rfl (ad ?_)))));refine bI rfl (fun E3=>?_) (fun E3=>?_)
   ·refine aU (aj (a8 (ah (ae rfl rfl (ae rfl rfl (ae rfl rfl ?_))))));obtain⟨e,hek⟩:∃e,es[es.length-1-k]? =some e:=⟨_,aL (by omega)⟩;refine dq (M:=M1) gj tW rfl rfl rfl he (aq _ _) (by omega) (fun af0 e' G1 R2=>?_);rw[show((es.length:Int)-1-(k:Int)).toNat=es.length-1-k from by omega]at G1;obtain rfl:=bM (hek.symm.trans G1);refine cx (M:=M1) (A:=RT.er) iD rfl tW (by decide) rfl rfl rfl R2 (aq _ _) (fun v154 R3=>?_);refine eE (A:=RT.er) (hn:=by decide) (M:=M1) gj tW (by decide) rfl rfl hM (R3) (.inl rfl) (fun RD Gc l6 fW=>?_);replace he:=he.le fW.le;replace ho:=ho.bh fW;replace hM:=fW.lt hM;have:=S.size;replace S:=S.ay fW;refine cR (M:=M1) (base:=NM.heap.size) gj tW rfl rfl rfl rfl ho l6 (aq _ _) (by have:=List.length_take_le k es.reverse;simp;omega) (by have:=List.length_take_le k es.reverse;simp;omega) (S.size) (fun Co GY RE Bu kg=>?_);replace he:=he.le kg.le;replace l6:=l6.le kg.le;replace hM:=kg.lt hM;have:=S.size;replace S:=S.dh kg ho (bj _);replace ho:=Bu;refine ai rfl rfl (ad (ah (ae rfl rfl (fX rfl rfl rfl (by omega) (ai rfl rfl (ad ?_))))));refine⟨rfl,(k+1,Co),(.cons rfl (.cons rfl (.cons rfl (.cons rfl (.cons rfl (.cons rfl (.cons (congrArg (fun z=>some (Value.int .i64 z)) (by dsimp only;omega)) .nil))))))),?_,?_⟩
    ·exact⟨GY,hM,S,by dsimp only;rw[cd,List.getElem?_reverse (by omega),hek];exact ho,he,by dsimp only;omega⟩
    ·dsimp only;omega
   ·refine cM (aj (ah ?_));rw[bp (by rw[List.length_reverse];omega)]at ho;have iy:=Own.close (hn:=by decide) Nl S ho (by rw[List.length_reverse];omega);replace S:=S.back;replace hM:=S.lt Nl;replace ix:=ix.step S (fun h=>h) (fun h=>h);replace tP:=tP.step S (fun h=>h) (fun h=>h);replace hs:=hs.le (by decide) S.le;replace S:=S10.ay S;clear ho he S10 Nl;refine ae rfl rfl (ae rfl rfl (ae rfl rfl ?_));refine aP rfl rfl SR (qx (ls:=(keysOf (fN l 0 2 10)).map (pk (fN l 0 2 10))) _ hM hs (jG _) (By _) (Bz _) (by show(List.map _ _).length≤_;rw[db];omega) iy (by rw[List.length_reverse];omega) (fun e _=>qy fu (by omega) _)) (fun r16 IL hc=>?_);obtain⟨af1,af3,YW,M16,rfl,af4,af5,tU,l9,Hc⟩:=hc;replace ix:=ix.step tU (fun h=>h) (fun h=>h);replace tP:=tP.step tU (fun h=>h) (fun h=>h);replace iy:=iy.le tU.le;replace hs:=hs.le (by decide) tU.le;replace hM:=tU.lt hM;have:=S.size;replace S:=S.ay tU;refine ai rfl rfl (ad (aj (aj (ah (ae rfl rfl (Rg.so kV rfl rfl rfl (ae rfl rfl (Rg.zW (g:=70) rfl ((by simp)) (al rfl rfl (ae rfl rfl (al rfl rfl ?_)))))))))));refine Rg.so kV rfl rfl rfl (ax rfl rfl rfl (ae rfl rfl (Rg.zW (g:=74) rfl ((by simp)) (al rfl rfl (ae rfl rfl (al rfl rfl (Rg.so kV rfl rfl rfl (ax rfl rfl rfl (ad (T.zX rfl ((by simp)) (aU ?_)))))))))));refine aj (ah (ae rfl rfl (ae rfl rfl ?_)));refine aP rfl rfl E55 (Dw hM ix tP) (fun r19 w19 hc=>?_);obtain⟨af6,af7,YX,M19,rfl,af8,af9,N8,Nn,No⟩:=hc;replace ix:=ix.step N8 (fun h=>h) (fun h=>h);replace l9:=l9.step N8 (fun h=>h) (fun h=>h);replace iy:=iy.le N8.le;replace hs:=hs.le (by decide) N8.le;replace hM:=N8.lt hM;have:=S.size;replace S:=S.ay N8
    refine ai rfl rfl (ad (aj (ah (ae rfl rfl ?_))));have hB:∀j,bit YX j=bit ws9 j:=fun j=>by rw[No j,zR j,Nk j,Ha]
    have hC:∀j,bit YW j=bit ws9 j:=fun j=>by rw[Hc j,zR j,Jg]
    have Np:=S.aI Kh;refine aP rfl rfl R1 (l8 hM Nn (fun j hj=>pK ((zR j).symm.trans ((hB j).symm.trans hj))) (fun hn=>h0 ((S.mem 0 (ak Kh)).1 hn)) ⟨SS,SU,Np⟩) (fun aga agb hc=>?_);obtain⟨lx,DA⟩:=hc;replace ix:=ix.step DA (fun h=>h) (fun h=>h);replace l9:=l9.step DA (fun h=>h) (fun h=>h);replace iy:=iy.le DA.le;replace hs:=hs.le (by decide) DA.le;replace hM:=DA.lt hM;have:=S.size;replace S:=S.ay DA;refine ae rfl rfl ?_;have Nq:=S.aI Kh;refine aP rfl rfl R1 (l8 hM ix (fun j hj=>pK ((zR j).symm.trans hj)) (fun hn=>h0 ((S.mem 0 (ak Kh)).1 hn)) ⟨SS,SU,Nq⟩) (fun agc agd hc=>?_);obtain⟨nC,BA⟩:=hc;replace ix:=ix.step BA (fun h=>h) (fun h=>h);replace l9:=l9.step BA (fun h=>h) (fun h=>h);replace iy:=iy.le BA.le;replace hs:=hs.le (by decide) BA.le;replace lx:=lx.le BA.le;replace hM:=BA.lt hM;have:=S.size;replace S:=S.ay BA;refine aP rfl rfl YU (vL hM lx nC) (fun age agf hc=>?_);obtain⟨rfl,zS⟩:=hc;refine bu (v':= .bool true) (congrArg Value.bool (decide_eq_true (qz hB _))) ?_;replace ix:=ix.step zS (fun h=>h) (fun h=>h);replace l9:=l9.step zS (fun h=>h) (fun h=>h);replace iy:=iy.le zS.le;replace hs:=hs.le (by decide) zS.le;replace lx:=lx.le zS.le;replace nC:=nC.le zS.le;replace hM:=zS.lt hM;have:=S.size;replace S:=S.ay zS;refine ae rfl rfl (al rfl rfl (ae rfl rfl (al rfl rfl ?_)));have Nr:=S.aI Kh;refine aP rfl rfl R1 (l8 hM l9 (fun j hj=>pK ((Hc j).symm.trans hj)) (fun hn=>h0 ((S.mem 0 (ak Kh)).1 hn)) ⟨SS,SU,Nr⟩) (fun agh agi hc=>?_);obtain⟨tQ,BB⟩:=hc;replace ix:=ix.step BB (fun h=>h) (fun h=>h);replace iy:=iy.le BB.le;replace hs:=hs.le (by decide) BB.le;replace lx:=lx.le BB.le;replace nC:=nC.le BB.le
    replace hM:=BB.lt hM;have:=S.size;replace S:=S.ay BB;refine al rfl rfl (ae rfl rfl (al rfl rfl ?_));have Nt:=S.aI Kh;refine aP rfl rfl R1 (l8 hM ix (fun j hj=>pK ((zR j).symm.trans hj)) (fun hn=>h0 ((S.mem 0 (ak Kh)).1 hn)) ⟨SS,SU,Nt⟩) (fun agj agk hc=>?_);obtain⟨zT,BC⟩:=hc;replace iy:=iy.le BC.le;replace hs:=hs.le (by decide) BC.le;replace lx:=lx.le BC.le;replace nC:=nC.le BC.le;replace tQ:=tQ.le BC.le;replace hM:=BC.lt hM;have:=S.size;replace S:=S.ay BC;refine al rfl rfl ?_;refine aP rfl rfl YU (vL hM tQ zT) (fun abx aby hc=>?_);obtain⟨rfl,rf⟩:=hc;refine bu (v':= .bool true) (congrArg Value.bool (decide_eq_true (qz hC _))) ?_;replace iy:=iy.le rf.le;replace hs:=hs.le (by decide) rf.le;replace lx:=lx.le rf.le;replace nC:=nC.le rf.le;replace tQ:=tQ.le rf.le;replace zT:=zT.le rf.le;replace hM:=rf.lt hM;have:=S.size;replace S:=S.ay rf;refine aQ rfl rfl rfl (ae rfl rfl (al rfl rfl ?_));refine aP rfl rfl YT (xI _ hM) (fun r25 w25 hc=>?_);obtain⟨rfl,Ki⟩:=hc;replace iy:=iy.le Ki.le;replace hs:=hs.le (by decide) Ki.le;replace lx:=lx.le Ki.le;replace nC:=nC.le Ki.le;replace tQ:=tQ.le Ki.le;replace zT:=zT.le Ki.le;replace hM:=Ki.lt hM;have:=S.size;replace S:=S.ay Ki;refine aQ rfl rfl rfl (ai rfl rfl (ad (aJ ?_)));exact aO rfl rfl ⟨rfl,S.back⟩
end Go.K

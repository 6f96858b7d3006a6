/- What the law 'EraseUpto' needs of walks and plain Lean, part 5: nothing is assumed beyond the texts that it imports. -/
import Derived.KernelRfl
import Derived.Laws.StructEq
import Derived.Test.YtohfoenhmkfjkaaGreatDoorProg
import Derived.Test.YtohfoenhmkfjkaaGreatDoorZEraseUpto1
import Derived.Test.YtohfoenhmkfjkaaGreatDoorZEraseUpto2
import Derived.Test.YtohfoenhmkfjkaaGreatDoorZEraseUpto3
import Derived.Test.YtohfoenhmkfjkaaGreatDoorZEraseUpto4
set_option linter.unusedVariables false
set_option linter.unusedSimpArgs false
namespace Go.K
open Go.Proofs
namespace TKErsB
theorem TE:Enters Tryz.prog 70:=enters Tryz.func70 rfl (by decide)
theorem E95:Enters Tryz.prog 95:=enters Tryz.func95 rfl (by decide)
theorem E96:Enters Tryz.prog 96:=enters Tryz.func96 rfl (by decide)
end TKErsB
open TKErsB
set_option maxRecDepth 10000
def mF (l:List Po) (sq:List Int) (t:Int):List Int:=(l.map (·.1)).takeWhile fun d=>decide (xW sq d<t)
theorem KE {α:Type} {p:α→Bool}:∀{xs:List α} {k:Nat} {d:α},(∀(j:Nat) x,j<k→xs[j]? =some x→p x=true)→xs[k]? =some d→p d=true→(xs.takeWhile p)[k]? =some d
 |[],_,_,_,h,_=>by simp at h
 |x::xs,0,d,_,h,hp=>by simp at h;subst h;simp[ux,hp]
 |x::xs,k+1,d,h1,h,hp=>by
  rw[ux,if_pos (h1 0 x (by omega) rfl),List.getElem?_cons_succ];exact KE (fun j y hj hy=>h1 (j+1) y (by omega) (by simpa using hy)) (by simpa using h) hp
theorem BT {α:Type} {p:α→Bool}:∀{xs:List α} {k:Nat},(∀(j:Nat) x,j<k→xs[j]? =some x→p x=true)→k≤xs.length→(∀d,xs[k]? =some d→p d=false)→(xs.takeWhile p).length=k
 |[],k,_,h,_=>by simp at h;simp[h]
 |x::xs,0,_,_,h=>by rw[ux,if_neg (by rw[h x rfl];decide)];rfl
 |x::xs,k+1,h1,h2,h=>by
  rw[ux,if_pos (h1 0 x (by omega) rfl),cv,BT (k:=k) (fun j y hj hy=>h1 (j+1) y (by omega) (by simpa using hy)) (by simpa using h2) (fun d hd=>h d (by simpa using hd))]
structure Jw (l:List Po):Prop where
 may:dU (-1) l=true
 ps:∀p∈l,p.2.length≤1099511627776
 by_:(dz (-1) l).length≤1099511627776
 ln:l.length≤1099511627776
theorem Hk {L:List En} (hF:∀e∈L,iQ e.1) (hn:L.length≤1000000) (k:List UInt8):Jw (pk L k):=by
 have h1:=qL k L 0 hF;have pR:dU (-1) (pk L k)=true:=sd k L 0 (-1) hF (by omega) (by omega);have rN:∀p∈pk L k,p.2.length≤500:=fun p hp=>(h1.2 p hp).2.2
 obtain⟨h2,h3⟩:=qM (pk L k) (-1) 500 (by omega) pR rN (by omega);have hl:(pk L k).length≤L.length:=h1.1;exact⟨pR,fun p hp=>by have:=rN p hp;omega,by omega,by omega⟩
theorem ud {M:az} {s:Se} {e:Er} {v0 ve:Value} (w0:World) (hM:Lt M w0) (hs:ch RT.se M w0 v0 s) (he:RT.er.V M w0 e ve):
  Spec Tryz.prog 72 #[v0,ve] w0 (fun v w=>∃bs u,v= .func (.func 122) #[] [.pointer (some ⟨bs,0,none⟩),u].toArray∧w.heap[bs]? =some (.cells #[v0] 25 (0,0))∧ch RT.er M w u e∧w0.heap.size≤bs∧Step M w0 M w aA):=by
 refine aW (args:=[_,_]) (fn:=Tryz.f72) Tryz.func72 rfl (n:=6) Tryz.ntmps72 (aj (ah ?_));refine mH M rfl rfl (fun bs w1 p1 q1 g1 s1=>?_);rw[qP hs]at g1;replace s1:=s1.back;refine jB (A:=RT.er) (a:=e) rfl rfl (s1.lt hM) (he.le s1.le) rfl (fun u w2 hu s2 _=>?_);refine ai rfl rfl (ad (aj (ah (iD (xs:=[]) (ys:=[.tmp 2,.tmp 3]) rfl rfl rfl (ai rfl rfl (ad (aH ?_)))))));exact aP rfl rfl ⟨bs,u,rfl,s2.aG g1,hu,p1,s1.ax s2⟩
theorem Ag {bs yl:Nat} {u v0:Value} {s:Se} {ls:List (List Po)} {e:Er} {J:Nat→az→World→Prop} {M:az} {Jx:World→Prop} (w0:World) (xY:xM s.2.2.1) (Ej:s.2.2.2=ls.map hU) (Jv:s.2.2.1.length=ls.length) (yo:Jw (lM s.2.2.1 ls (dd e.1))) (h1:e.1.1.length≤140737488355328) (h2:e.1.2.length≤140737488355328) (El:∀i M w,J i M w→w.heap[bs]? =some (.cells #[v0] 25 (0,0))∧Lt M w∧ch RT.se M w v0 s∧ch RT.er M w u e) (il:∀i M w M' w' N,J i M w→Step M w M' w' N→(∀b,N b→w0.heap.size≤b∧(b<w.heap.size→∃cs,w.heap[b]? =some (.cells cs 216 (0,0))))→J i M' w') (hy:∀(i:Nat) (M:az) (w:World) (d:Int),J i M w→(mF (lM s.2.2.1 ls (dd e.1)) s.2.1 e.2)[i]? =some d→rj Tryz.prog yl [.int .i64 d].toArray w (fun r w'=>∃b,r= .bool b∧(b=true→∃M' N,J (i+1) M' w'∧Step M w M' w' N∧∀k,N k→∀cs,w.heap[k]? ≠some (.cells cs 216 (0,0)))∧(b=false→Jx w'))) (h0:J 0 M w0):
  Spec Tryz.prog 122 #[.func (.yield yl) #[] #[],.pointer (some ⟨bs,0,none⟩),u] w0 (fun _ w=>(∃M',J (mF (lM s.2.2.1 ls (dd e.1)) s.2.1 e.2).length M' w)∨Jx w):=by
 obtain⟨gb,hM,hs,hu⟩:=El _ _ _ h0;refine aW (args:=[_,_,_]) (fn:=Tryz.f122) Tryz.func122 rfl (n:=28) Tryz.ntmps122 (aj (ah (aE Tryz.underlying25 rfl rfl rfl gb rfl (bp (v':=v0) rfl ?_))));refine aJ (M:=M) (A:=RT.er) (B:=RT.fd) dG rfl rfl rq (by decide) er0 rfl rfl (by decide) hu (aq _ _) (fun uf xV=>?_);refine cw (M:=M) (A:=RT.fd) cb rfl rq (by decide) rfl rfl rfl xV (aq _ _) (fun vt DS=>?_);obtain rfl:=k7 DS;refine aM rfl rfl E95 (x7 (t:=e.1) _ hM hs xY Ej Jv h1 h2) (fun r0 w1 hc=>?_);obtain⟨bc,rfl,hz,s1,hC⟩:=hc;have YH:=il _ _ _ _ _ _ h0 s1 (fun b h=>h.elim);generalize ins M bc=M0 at s1 hC YH;refine ai rfl rfl (ad (aj (ah (ae rfl rfl ?_))));obtain⟨_,rT,_,_⟩:=El _ _ _ YH;refine aM rfl rfl E96 (wJ hC rT yo.may yo.ps yo.by_ yo.ln) (fun r2 w2 h=>?_);obtain⟨rfl,s2,RY⟩:=h;have TF:=il _ _ _ _ _ _ YH s2 (fun b (h:b=bc)=>⟨by omega,fun _=>by(obtain⟨_,_,_,_,_,h9,_⟩:=hC;exact⟨_,by rw[h];exact h9⟩)⟩);have C5:pU (lM s.2.2.1 ls (dd e.1)) (-1)=((0:Nat):Int):=by unfold pU;rw[if_pos (by omega)];rfl
 rw[C5]at RY ⊢;refine ai rfl rfl (ad (bj ?_));refine dI (σ:=Nat) (fun k=>[(0,.func (.yield yl) #[] #[]),(1,.pointer (some ⟨bs,0,none⟩)),(2,u),(4,.pointer (some ⟨bc,0,none⟩)),(5,.int .i64 (eI (lM s.2.2.1 ls (dd e.1)) (k:Int)))]) (fun k w=>k≤(lM s.2.2.1 ls (dd e.1)).length∧(∀(j:Nat) x,j<k→((lM s.2.2.1 ls (dd e.1)).map (·.1))[j]? =some x→decide (xW s.2.1 x<e.2)=true)∧∃M1,J k M1 w∧Cu 216 (lM s.2.2.1 ls (dd e.1)) (k:Int) M1 w bc) (fun k=>(lM s.2.2.1 ls (dd e.1)).length-k) 0 (.cons rfl (.cons rfl (.cons rfl (.cons rfl (.cons rfl .nil))))) ?_ ?_
 ·exact⟨bH _,fun j x h=>absurd h (jQ _),_,TF,RY⟩
 ·rintro k w ⟨hk,Ef,M1,hJ,RY⟩;refine aj (aj ?_);obtain⟨gb2,HJ,yi,qt⟩:=El _ _ _ hJ;by_cases RZ:eI (lM s.2.2.1 ls (dd e.1)) (k:Int)<2147483648
  ·obtain⟨d,ps,hx,JU⟩:∃d ps,(lM s.2.2.1 ls (dd e.1))[k]? =some (d,ps)∧eI (lM s.2.2.1 ls (dd e.1)) (k:Int)=d:=by
    rcases ju (lM s.2.2.1 ls (dd e.1)) (k:Int)with⟨h0,_⟩|⟨j2,d2,ps2,qg,Tk,h3,_⟩|⟨h0,h1,_⟩
    ·omega
    ·have:j2=k:=by omega
     subst this;exact⟨d2,ps2,Tk,h3⟩
    ·omega
   have C3:=(au.1 hx).1;apply T.draw (M:=M1) mixed [b9.eq _,b9.eq _,b9.eq (.bool true),b9.eq v0,b9.eq _,b9.eq (.int .i64 (xW s.2.1 (eI (lM s.2.2.1 ls (dd e.1)) (k:Int)))),b9.ptr (RT.int .i64) e.2,b9.eq (.int .i64 e.2),b9.eq _,b9.eq _]
   ·rfl
   ·refine aK ?_ ?_
    ·intro wD E sD;refine ae rfl rfl ?_;exact ad ⟨rfl,rfl,_,rfl,rfl,an _ _⟩
    refine aK ?_ ?_
    ·intro wD E sD;refine aw (cf rfl rfl rfl ?_);exact ad ⟨rfl,rfl,_,rfl,rfl,an _ _⟩
    refine aK ?_ ?_
    ·intro wD E sD;refine aw (ae rfl rfl ?_);refine ad ⟨rfl,rfl,_,rfl,?_,an _ _⟩;exact congrArg Value.bool (decide_eq_true RZ)
    refine aK ?_ ?_
    ·intro wD E sD;refine aw (al rfl rfl (aE Tryz.underlying25 rfl rfl rfl (sD.aG gb2) rfl ?_));exact ad ⟨rfl,rfl,_,rfl,rfl,an _ _⟩
    refine aK ?_ ?_
    ·intro wD E sD;refine aw (al rfl rfl (ae rfl rfl ?_));exact ad ⟨rfl,rfl,_,rfl,rfl,an _ _⟩
    refine aK ?_ ?_
    ·intro wD E sD;refine aw (aw (aw (aw (al rfl rfl ?_))));refine aM rfl rfl TE (wI _ (yi.le (by decide) sD.le)) (fun r5 w5 hc=>?_);obtain⟨rfl,rfl⟩:=hc;exact ad ⟨rfl,rfl,_,rfl,rfl,an _ _⟩
    refine aK ?_ ?_
    ·intro wD E sD;refine aw (al rfl rfl ?_);refine aJ (M:=M1) (A:=RT.er) (B:=RT.int .i64) dG rfl rfl I3 (by decide) YG rfl rfl (by decide) qt sD.le (fun uf xV=>?_);exact ad ⟨rfl,rfl,_,rfl,xV,an _ _⟩
    refine aK ?_ ?_
    ·intro wD E sD;intro v6 ov;refine aw (al rfl rfl ?_);refine cd (M:=M1) ar rfl rfl (show ch (RT.int .i64) M1 wD v6 e.2 from ov) (aq _ _) (fun lD=>?_);exact ad ⟨rfl,rfl,_,rfl,rfl,an _ _⟩
    refine aK ?_ ?_
    ·intro wD E sD;refine aw (aw (aw (al rfl rfl (cf rfl rfl rfl ?_))));exact ad ⟨rfl,rfl,_,rfl,rfl,an _ _⟩
    refine aK ?_ ?_
    ·intro wD E sD;refine aw (aw (aQ rfl rfl rfl ?_));exact ad ⟨rfl,rfl,_,rfl,rfl,an _ _⟩
    exact bX.nil
   ·intro wD2 DR;refine aw (aw (aw (aw (aw (aw ?_)))));intro afO abT;refine aw (aw (aw ?_));have HM:=il _ _ _ _ _ _ hJ DR (fun b h=>h.elim);have YI:=RY.step DR (fun h=>h);refine bF rfl (fun c2=>?_) (fun c2=>?_)
    ·refine aU (aj (bj (aj (ah (ae rfl rfl (ae rfl rfl ?_))))));refine Rg.yield rfl (vs:=[.int .i64 (eI (lM s.2.2.1 ls (dd e.1)) (k:Int))]) rfl rfl (hy k M1 _ _ HM (by rw[JU];exact KE Ef (by rw[eE,hx];rfl) (by rw[←JU];simpa using c2))) (fun r4 w5 h5=>?_);obtain⟨b,rfl,Oc,oa⟩:=h5;refine Rg.not rfl rfl (bp (v':= .bool (decide (¬b=true))) (by simp) (ad ?_));refine bF rfl (fun c4=>?_) (fun c4=>?_)
     ·refine aH ?_;exact B6 rfl (.inr (oa (by simpa using c4)))
     ·refine aU (ah (ae rfl rfl ?_));obtain⟨M2,N2,TB,s4,hN4⟩:=Oc (ec.1 c4);have hC4:=YI.step s4 (fun h=>by obtain⟨_,_,_,_,_,h9,_⟩:=YI;exact hN4 _ h _ h9);obtain⟨_,Nn,_,_⟩:=El _ _ _ TB;refine aM rfl rfl E96 (wJ hC4 Nn yo.may yo.ps yo.by_ yo.ln) (fun r6 w6 h=>?_);obtain⟨rfl,s6,hC6⟩:=h;have hJ6:=il _ _ _ _ _ _ TB s6 (fun b (h:b=bc)=>⟨by omega,fun _=>by(obtain⟨_,_,_,_,_,h9,_⟩:=hC4;exact⟨_,by rw[h];exact h9⟩)⟩);have C5:pU (lM s.2.2.1 ls (dd e.1)) (k:Int)=((k+1:Nat):Int):=by unfold pU;rw[if_pos (by omega)];rfl
      rw[C5]at hC6 ⊢;refine ai rfl rfl (ad ?_);refine⟨rfl,k+1,(.cons rfl (.cons rfl (.cons rfl (.cons rfl (.cons rfl .nil))))),?_,?_⟩
      ·exact⟨by omega,fun j x hj R0=>by
        rcases cB j k with h|h
        ·exact Ef j x h R0
        ·rw[show j=k by omega,eE,hx]at R0;cases R0;rw[←JU];simpa using c2,_,hJ6,hC6⟩
      ·omega
    ·refine cM ?_
     first|refine fK.nil ?_|simp+decide only[so,kZ,if_true,if_false]|skip
     have el:(mF (lM s.2.2.1 ls (dd e.1)) s.2.1 e.2).length=k:=BT Ef (by rw[cN];exact hk) (fun d' Cc=>by
      rw[eE]at Cc;obtain⟨p,hp,rfl⟩:=Option.map_eq_some_iff.1 Cc;have YJ:eI (lM s.2.2.1 ls (dd e.1)) (k:Int)=p.1:=ir hp
      first
      |(rw[YJ]at c2;simpa using c2)
      |(have:=l0 yo.may hp;omega))
     exact gZ rfl (.inl ⟨_,by rw[el];exact HM⟩)
  ·apply T.draw (M:=M1) mixed [b9.eq _,b9.eq _,b9.eq (.bool false),b9.eq undef,b9.eq undef,b9.eq undef,b9.eq undef,b9.eq undef,b9.eq undef,b9.eq _]
   ·rfl
   ·refine aK ?_ ?_
    ·intro wD E sD;refine ae rfl rfl ?_;exact ad ⟨rfl,rfl,_,rfl,rfl,an _ _⟩
    refine aK ?_ ?_
    ·intro wD E sD;refine aw (cf rfl rfl rfl ?_);exact ad ⟨rfl,rfl,_,rfl,rfl,an _ _⟩
    refine aK ?_ ?_
    ·intro wD E sD;refine aw (ae rfl rfl ?_);refine ad ⟨rfl,rfl,_,rfl,?_,an _ _⟩;exact congrArg Value.bool (decide_eq_false RZ)
    refine aK ?_ ?_
    ·intro wD E sD;refine aw ?_;exact ao rfl rfl rfl rfl (ad ⟨rfl,rfl,_,rfl,rfl,an _ _⟩)
    refine aK ?_ ?_
    ·intro wD E sD;refine aw ?_;exact ao rfl rfl rfl rfl (ad ⟨rfl,rfl,_,rfl,rfl,an _ _⟩)
    refine aK ?_ ?_
    ·intro wD E sD;refine aw (aw (aw (aw ?_)));exact ao rfl rfl rfl rfl (ad ⟨rfl,rfl,_,rfl,rfl,an _ _⟩)
    refine aK ?_ ?_
    ·intro wD E sD;refine aw ?_;exact ao rfl rfl rfl rfl (ad ⟨rfl,rfl,_,rfl,rfl,an _ _⟩)
    refine aK ?_ ?_
    ·intro wD E sD;refine aw (aw ?_);exact ao rfl rfl rfl rfl (ad ⟨rfl,rfl,_,rfl,rfl,an _ _⟩)
    refine aK ?_ ?_
    ·intro wD E sD;refine aw (aw (aw ?_));exact ao rfl rfl rfl rfl (ad ⟨rfl,rfl,_,rfl,rfl,an _ _⟩)
    refine aK ?_ ?_
    ·intro wD E sD;refine aw (aw (ay rfl rfl rfl ?_));exact ad ⟨rfl,rfl,_,rfl,rfl,an _ _⟩
    exact bX.nil
   ·intro wD2 DR;refine aw (aw (aw (aw (aw (aw (aw (aw (aw (aw ?_)))))))));have HM:=il _ _ _ _ _ _ hJ DR (fun b h=>h.elim);have YI:=RY.step DR (fun h=>h);refine gL rfl (cM ?_)
    first|refine fK.nil ?_|simp+decide only[so,kZ,if_true,if_false]|skip
    have el:(mF (lM s.2.2.1 ls (dd e.1)) s.2.1 e.2).length=k:=BT Ef (by rw[cN];exact hk) (fun d' Cc=>by
     rw[eE]at Cc;obtain⟨p,hp,rfl⟩:=Option.map_eq_some_iff.1 Cc;have YJ:eI (lM s.2.2.1 ls (dd e.1)) (k:Int)=p.1:=ir hp
     first
     |(rw[YJ]at c2;simpa using c2)
     |(have:=l0 yo.may hp;omega))
    exact gZ rfl (.inl ⟨_,by rw[el];exact HM⟩)
end Go.K
namespace Go.K
open Go.Proofs
namespace TKErsC
theorem qS:TI Tryz.prog 51 (.agg #[(.string ⟨#[]⟩),(.string ⟨#[]⟩),(.int .i64 0)]) 3 40:=by unfold TI;kernel_rfl
theorem E71:Enters Tryz.prog 71:=enters Tryz.func71 rfl (by decide)
theorem YK:Enters Tryz.prog 72:=enters Tryz.func72 rfl (by decide)
theorem YL:Enters Tryz.prog 121:=enters Tryz.func121 rfl (by decide)
theorem NJ:Enters Tryz.prog 122:=enters Tryz.func122 rfl (by decide)
end TKErsC
open TKErsC
set_option maxRecDepth 10000
def BU (K:az→World→Prop) (C:TypeId) (gf:FuncId) (lb:Array Value) (xs:List Int):Prop:=
 ∀{yl:Nat} {J:Nat→az→World→Prop} {M:az} {Jx:World→Prop} (w0:World) (_:∀i M w,J i M w→Lt M w∧K M w)
  (_:∀i M w M' w' N,J i M w→Step M w M' w' N→(∀b,N b→w0.heap.size≤b∧(b<w.heap.size→∃cs,w.heap[b]? =some (.cells cs C (0,0))))→J i M' w')
  (_:∀(i:Nat) (M:az) (w:World) (d:Int),J i M w→xs[i]? =some d→rj Tryz.prog yl [.int .i64 d].toArray w (fun r w'=>∃b,r= .bool b∧(b=true→∃M' N,J (i+1) M' w'∧Step M w M' w' N∧∀k,N k→∀cs,w.heap[k]? ≠some (.cells cs C (0,0)))∧(b=false→Jx w'))) (_:J 0 M w0),
  Spec Tryz.prog gf (#[.func (.yield yl) #[] #[]]++lb) w0 (fun _ w=>(∃M',J xs.length M' w)∨Jx w)
structure Ah {α:Type} (A:RT α) (e T C:TypeId) (K:az→World→Prop) (M:az) (w0:World) (bo D:Nat) (st:Loop) (vo:Value) (xs:List α) (M':az) (w:World):Prop where
 lt:Lt M' w
 S:Step M w0 M' w aA
 o:w.heap[bo]? =some (.cells #[vo] T (0,0))
 mo:M' bo
 r:w.heap[D+1]? =some (.loop st)
 mr:M' (D+1)
 d:w.heap[D]? =some (.deferred (some []))
 md:M' D
 own:Own A e M' w w0.heap.size vo xs
 k:K M' w
 z:w0.heap.size≤bo∧w0.heap.size≤D
section
variable {α:Type} {A:RT α} {e T C:TypeId} {K:az→World→Prop} {M M1 M2 N:az} {w0 w w':World} {bo D:Nat} {st:Loop} {vo:Value} {xs:List α}
theorem Ah.Hl (hK:∀{M w M' w'},K M w→Le M w M' w'→K M' w') (h1:C≠e) (h2:C≠T) (h:Ah A e T C K M w0 bo D st vo xs M1 w) (s:Step M1 w M2 w' N) (hN:∀b,N b→w0.heap.size≤b∧(b<w.heap.size→∃cs,w.heap[b]? =some (.cells cs C (0,0)))):Ah A e T C K M w0 bo D st vo xs M2 w':=by
 have n1: ¬N bo:=fun hn=>by obtain⟨cs,hc⟩:=(hN _ hn).2 (ak h.o);rw[h.o]at hc;injection hc with hc;injection hc with _ hc;exact h2 hc.symm
 have n2: ¬N (D+1):=fun hn=>by obtain⟨cs,hc⟩:=(hN _ hn).2 (ak h.r);rw[h.r]at hc;cases hc
 have n3: ¬N D:=fun hn=>by obtain⟨cs,hc⟩:=(hN _ hn).2 (ak h.d);rw[h.d]at hc;cases hc
 refine⟨s.lt h.lt,h.S.cx s (fun k hk=>(hN k hk).1),s.bE h.o n1,(s.mem _ (ak h.o)).2 h.mo,s.bE h.r n2,(s.mem _ (ak h.r)).2 h.mr,s.bE h.d n3,(s.mem _ (ak h.d)).2 h.md,h.own.step s (fun b hb hn=>?_),hK h.k s.le,h.z⟩;obtain⟨cs,hc⟩:=h.own.isCells hb;obtain⟨EN,yp⟩:=(hN _ hn).2 (ak hc);rw[hc]at yp;injection yp with yp;injection yp with _ yp;exact h1 yp.symm
theorem Ah.bg (hK:∀{M w M' w'},K M w→Le M w M' w'→K M' w') (h:Ah A e T C K M w0 bo D st vo xs M1 w) (s:Step M1 w M2 w' aA):Ah A e T C K M w0 bo D st vo xs M2 w':=
 ⟨s.lt h.lt,h.S.ax s,s.aG h.o,(s.mem _ (ak h.o)).2 h.mo,s.aG h.r,(s.mem _ (ak h.r)).2 h.mr,s.aG h.d,(s.mem _ (ak h.d)).2 h.md,h.own.bg s,hK h.k s.le,h.z⟩
theorem Ah.mN (hK:∀{M w M' w'},K M w→Le M w M' w'→K M' w') {st':Loop} (h:Ah A e T C K M w0 bo D st vo xs M1 w):Ah A e T C K M w0 bo D st' vo xs M1 (w.putObj (D+1) (.loop st')):=by
 have s:Step M1 w M1 (w.putObj (D+1) (.loop st')) (fun k=>k=D+1):=dK h.mr;obtain⟨z1,z2⟩:=h.z;refine⟨s.lt h.lt,h.S.cx s (fun k (hk:k=D+1)=>by omega),s.bE h.o (fun(hn:bo=D+1)=>by have h1:=h.o;rw[hn,h.r]at h1;cases h1),h.mo,World.putObj_heap_same (ak h.r),h.mr,s.bE h.d (fun(hn:D=D+1)=>by omega),h.md,h.own.step s (fun b hb (hn:b=D+1)=>?_),hK h.k s.le,h.z⟩;obtain⟨cs,hc⟩:=h.own.isCells hb;rw[hn,h.r]at hc;cases hc
theorem Ah.grow (hK:∀{M w M' w'},K M w→Le M w M' w'→K M' w') {YM:Value} {xs':List α} (hT:T≠e) (h:Ah A e T C K M w0 bo D st vo xs M1 w) (s:Step M1 w M2 w' (jb vo)) (ho:Own A e M2 w' w0.heap.size YM xs'):
  (w'.heap[bo]? =some (.cells #[vo] T (0,0))∧M2 bo)∧∀{w2:World},Step M2 w' M2 w2 (fun k=>k=bo)→w2.heap[bo]? =some (.cells #[YM] T (0,0))→Ah A e T C K M w0 bo D st YM xs' M2 w2:=by
 obtain⟨z1,z2⟩:=h.z
 have NK:∀{b:Nat} {o:Obj},w.heap[b]? =some o→(∀cs fr,o≠ .cells cs e fr)→¬jb vo b:=fun {b o} hb eK hn=>by
  obtain⟨⟨C,h1,_⟩,_⟩:=h.own;rcases h1.2 with h3|⟨g,cap,cur,h3,h4,h5,_⟩
  ·unfold jb at hn;rw[h3.1]at hn;cases hn
  ·unfold jb at hn;rw[h3]at hn;cases hn;rw[hb]at h5;exact eK _ _ (bQ h5)
 have eA:=s.bE h.o (NK h.o (fun cs fr hc=>by injection hc with _ h1 _;exact hT h1));have hr:=s.bE h.r (NK h.r (fun cs fr hc=>by cases hc));have hd:=s.bE h.d (NK h.d (fun cs fr hc=>by cases hc));have QA:=(s.mem _ (ak h.o)).2 h.mo;refine⟨⟨eA,QA⟩,fun {w2} s2 hx=>⟨s2.lt (s.lt h.lt),(h.S.dC s h.own (a8 _)).cx s2 (fun k (hk:k=bo)=>by omega),hx,QA,s2.bE hr (fun(hn:D+1=bo)=>by rw[hn,eA]at hr;cases hr),(s.mem _ (ak h.r)).2 h.mr,s2.bE hd (fun(hn:D=bo)=>by rw[hn,eA]at hd;cases hd),(s.mem _ (ak h.d)).2 h.md,ho.step s2 (fun b hb (hn:b=bo)=>ho.eL eA hT (by rw[←hn];exact hb)),hK (hK h.k s.le) s2.le,h.z⟩⟩
end
theorem Ah.told {α:Type} {A:RT α} {e T C:TypeId} {K:az→World→Prop} {M M1 M5 M6:az} {w0 w w4 w5 w6 w7 w8:World} {bo D:Nat} {st:Loop} {vo:Value} {xs:List α} (h1:C≠e) (h2:C≠T) (h:Ah A e T C K M w0 bo D st vo xs M1 w) (s4:Step M1 w M1 w4 (fun k=>k=D+1)) (s5:Step M1 w4 M5 w5 aA) (s6:Step M5 w5 M6 w6 (jb vo)) (s7:Step M6 w6 M6 w7 (fun k=>k=bo)) (s8:Step M6 w7 M6 w8 (fun k=>k=D+1)):∃N,Step M1 w M6 w8 N∧∀k,N k→∀cs,w.heap[k]? ≠some (.cells cs C (0,0)):=by
 refine⟨fun b=>b=D+1∨jb vo b∨b=bo,((((s4.ca (fun b hb=> .inl hb) (fun b hb=>?_)).ax s5).trans s6 (fun b _ hb=> .inr (.inl hb))).trans s7 (fun b _ hb=> .inr (.inr hb))).trans s8 (fun b _ hb=> .inl hb),fun k hk cs hc=>?_⟩
 ·rcases hb with rfl|hb|rfl
  ·exact h.mr
  ·exact h.own.mut_ _ hb
  ·exact h.mo
 ·rcases hk with rfl|hk|rfl
  ·rw[h.r]at hc;cases hc
  ·obtain⟨EN,yp⟩:=h.own.isCells hk;rw[hc]at yp;injection yp with yp;injection yp with _ yp;exact h1 yp
  ·rw[h.o]at hc;injection hc with hc;injection hc with _ hc;exact h2 hc.symm
theorem R1 {α:Type} {A:RT α} {e T C:TypeId} {K:az→World→Prop} {M M1:az} {w0 w:World} {bo:Nat} {st:Loop} (hK:∀{M w M' w'},K M w→Le M w M' w'→K M' w') (hM:Lt M1 w) (S:Step M w0 M1 w aA) (go:w.heap[bo]? =some (.cells #[.slice none 0 0] T (0,0))) (mo:M1 bo) (hk:K M1 w) (hbo:w0.heap.size≤bo):
  ∃M',Ah A e T C K M w0 bo w.heap.size st (.slice none 0 0) [] M' ((w.alloc (.deferred (some []))).alloc (.loop st)):=by
 have sA:Step M1 w (ins M1 w.heap.size) (w.alloc (.deferred (some []))) aA:=(cU M1 w _).own (a8 _) (by simp);have sB:Step (ins M1 w.heap.size) (w.alloc (.deferred (some []))) (ins (ins M1 w.heap.size) (w.heap.size+1)) ((w.alloc (.deferred (some []))).alloc (.loop st)) aA:=(cU _ _ _).own (by simp) (by simp);have hD:(w.alloc (.deferred (some []))).heap[w.heap.size]? =some (.deferred (some [])):=cu w _;have hR:((w.alloc (.deferred (some []))).alloc (.loop st)).heap[w.heap.size+1]? =some (.loop st):=by have:=cu (w.alloc (.deferred (some []))) (.loop st);rwa [World.size_alloc]at this
 exact⟨_,sB.lt (sA.lt hM),(S.ax sA).ax sB,sB.aG (sA.aG go),.inr (.inr mo),hR,.inl rfl,sB.aG hD,.inr (.inl rfl),eo _ _ _ _ _,hK (hK hk sA.le) sB.le,hbo,S.size⟩
theorem DX {K:az→World→Prop} {gf:FuncId} {lb:Array Value} {xs:List Int} {M:az} (w0:World) (hM:Lt M w0) (he:Enters Tryz.prog gf) (hG:BU K 216 gf lb xs) (hK:∀{M w M' w'},K M w→Le M w M' w'→K M' w') (hk:K M w0) (JO:∀x∈xs,-9223372036854775808≤x∧x≤9223372036854775807) (uA:xs.length≤1099511627776):
  Spec Tryz.prog 121 #[.slice none 0 0,.func (.func gf) #[] lb] w0 (fun v w=>((RT.int .i64).sl).V M w xs v∧Step M w0 M w aA):=by
 have ku:=hM;refine nc (args:=[_,_]) (fn:=Tryz.f121) Tryz.func121 rfl (n:=13) Tryz.ntmps121 ?_;have S:Step M w0 M w0 aA:=(an _ _).ca (fun _ h=>h.elim) (fun _ h=>h.elim);refine aj (ah ?_);refine mH M rfl rfl (fun rU He RN RO gR o0=>?_);obtain⟨nG,nH⟩:∃M',M'=ins M rU:=⟨_,rfl⟩;rw[←nH]at o0;have ie:nG rU:=by rw[nH];exact .inl rfl
 change He.heap[rU]? =some (.cells #[.slice none 0 0] _ _)at gR;replace hM:=o0.lt hM;have:=S.size;replace S:=S.ax o0;refine ai rfl rfl (ad (aj (aj (ah (ae rfl rfl (ad (bj ?_)))))));refine T.range (gf:=gf) (lb:=lb) rfl he (fun rec na=>?_);obtain⟨D,hD⟩:∃D,D=He.heap.size:=⟨_,rfl⟩;obtain⟨Mr,h0⟩:=R1 (A:=RT.int .i64) (e:=3) (C:=216) (st:=rec .ready none) hK hM S gR ie (hK hk S.le) (by omega);rw[←hD]at na h0 ⊢;refine Spec.mono (hG (M:=Mr) (J:=fun i M' w=>∃vo,Ah (RT.int .i64) 3 32 216 K M w0 rU D (rec .ready none) vo (xs.take i) M' w) (Jx:=fun _=>False) _ (fun i M' w ⟨vo,h⟩=>⟨h.lt,h.k⟩) (fun i M' w M2 w2 N ⟨vo,h⟩ s hN=>⟨vo,h.Hl hK (by decide) (by decide) s (fun b hb=>⟨by have h1:=(hN b hb).1;have h2:=h.z.2;simp at h1;omega,(hN b hb).2⟩)⟩) (fun i M' wr x hJ hx=>?_) ⟨_,h0⟩) (fun _ w3 h3=>?_)
 ·obtain⟨vo,h⟩:=hJ;refine lx (ps:=[7]) (vs:=[.int .i64 x]) na h.r rfl (by decide) (ah (ai rfl rfl (ad ?_)));refine⟨rfl,h.r,?_⟩;have h4:=h.mN hK (st':=rec .busy none);have s4:Step M' wr M' (wr.putObj (D+1) (.loop (rec .busy none))) (fun k=>k=D+1):=dK h.mr;generalize wr.putObj (D+1) _=w4 at h4 s4 ⊢;refine bj (ah (aE av rfl rfl rfl h4.o rfl (bp (v':=vo) rfl (ae rfl rfl ?_))));refine eW (A:=RT.int .i64) (hn:=by decide) (M:=M') av I3 (by decide) rfl rfl h4.lt (B7.2 ⟨rfl,JO x (aN hx)⟩) (.inr ⟨rfl,rfl⟩) (fun u5 w5 AY s5=>?_);have h6:=h4.bg hK s5;have lS:=(au.1 hx).1;refine dh (M:=M') (base:=w0.heap.size) av I3 rfl rfl rfl rfl h6.own AY (aq _ _) (by simp;omega) (by simp;omega) h6.S.size (fun v6 M6 w6 ry s6=>?_);obtain⟨⟨YN,YO⟩,HF⟩:=h6.grow hK (by decide) s6 ry;refine bP (M:=M6) nZ rfl rfl YN rfl (by obtain⟨_,_,he,_⟩:=ry.isSlice;rw[he];rfl) YO (fun w7 g7 s7=>?_);refine ad ?_;have h8:=(HF s7 g7).mN hK (st':=rec .ready none);obtain⟨N,hN1,hN2⟩:=h.told (by decide) (by decide) s4 s5 s6 s7 (dK (o:= .loop (rec .ready none)) (HF s7 g7).mr);exact⟨(HF s7 g7).r,true,rfl,fun _=>⟨M6,N,⟨v6,by rw[cr,hx,cY];exact h8⟩,hN1,hN2⟩,fun h=>by cases h⟩
 ·obtain⟨M',vo,h⟩:=h3.resolve_right id;left;refine⟨h.r,?_⟩;have h5:=h.mN hK (st':=rec .exhausted none);generalize w3.putObj (D+1) _=wE at h5 ⊢;refine aj (ah (aE av rfl rfl rfl h5.o rfl (bp (v':=vo) rfl (ai rfl rfl (ad (aH ?_))))));have sE:Step M' wE M' (wE.putObj D (.deferred none)) (fun k=>k=D):=dK h5.md;have hz:=h5.z;have hS:=h5.S.cx sE (fun k (hk:k=D)=>by omega)
  have ho:=h5.own.step sE (fun b hb (hn:b=D)=>by
   obtain⟨cs,hc⟩:=h5.own.isCells hb;rw[hn,h5.d]at hc;cases hc)
  rw[bI (a8 _)]at ho;exact AL rfl rfl h5.d ⟨ho.close ku hS (by omega),hS.back⟩
theorem BV {K:az→World→Prop} {gf:FuncId} {lb:Array Value} {xs:List Int} {M:az} (w0:World) (hM:Lt M w0) (he:Enters Tryz.prog gf) (hG:BU K 216 gf lb xs) (hK:∀{M w M' w'},K M w→Le M w M' w'→K M' w') (hk:K M w0) (JO:∀x∈xs,-9223372036854775808≤x∧x≤9223372036854775807) (uA:xs.length≤1099511627776):
  Spec Tryz.prog 71 #[.func (.func gf) #[] lb] w0 (fun v w=>((RT.int .i64).sl).V M w xs v∧Step M w0 M w aA):=by
 refine aW (args:=[_]) (fn:=Tryz.f71) Tryz.func71 rfl (n:=5) Tryz.ntmps71 (aj (ah (ai rfl rfl (ad (aj (ah (ae rfl rfl ?_)))))));refine aM rfl rfl YL (DX _ hM he hG hK hk JO uA) (fun r wc hc=>?_);obtain hc:=hc;refine ai rfl rfl (ad (aH ?_));exact aP rfl rfl hc
theorem Hm {α:Type} {p:α→Bool}:∀{xs:List α} {x:α},x∈xs.takeWhile p→p x=true
 |[],_,h=>by cases h
 |y::xs,x,h=>by
  rw[ux]at h
  split at h
  ·rename_i hp
   rcases dm.1 h with rfl|h
   ·exact hp
   ·exact Hm h
  ·cases h
theorem Hn {l:List Po} {sq:List Int} {t d:Int} (h:d∈mF l sq t):∃p∈l,p.1=d∧xW sq d<t:=by
 have h1:=Hm h;obtain⟨p,hp,rfl⟩:=cE.1 ((List.takeWhile_sublist _).subset h);exact⟨p,hp,rfl,by simpa using h1⟩
theorem DY (l:List Po) (sq:List Int) (t:Int):(mF l sq t).length≤l.length:=by
 have:=(List.takeWhile_sublist (l:=l.map (·.1)) (fun d=>decide (xW sq d<t))).length_le
 rwa [cN]at this
theorem rL {s:Se} {ls:List (List Po)} {e:Er} {v0 u:Value} {bs:Nat} (xY:xM s.2.2.1) (Ej:s.2.2.2=ls.map hU) (Jv:s.2.2.1.length=ls.length) (yo:Jw (lM s.2.2.1 ls (dd e.1))) (h1:e.1.1.length≤140737488355328) (h2:e.1.2.length≤140737488355328):
  BU (fun M w=>w.heap[bs]? =some (.cells #[v0] 25 (0,0))∧¬M bs∧ch RT.se M w v0 s∧ch RT.er M w u e) 216 122 #[.pointer (some ⟨bs,0,none⟩),u] (mF (lM s.2.2.1 ls (dd e.1)) s.2.1 e.2):=
 fun w0 hk il hy h0=>Ag w0 xY Ej Jv yo h1 h2 (fun i M w h=>⟨(hk i M w h).2.1,(hk i M w h).1,(hk i M w h).2.2.2.1,(hk i M w h).2.2.2.2⟩) il hy h0
theorem nI {s:Se} {e:Er} {v0 u:Value} {bs:Nat} {M M':az} {w w':World} (h:w.heap[bs]? =some (.cells #[v0] 25 (0,0))∧¬M bs∧ch RT.se M w v0 s∧ch RT.er M w u e) (l:Le M w M' w'):w'.heap[bs]? =some (.cells #[v0] 25 (0,0))∧¬M' bs∧ch RT.se M' w' v0 s∧ch RT.er M' w' u e:=
 have hb:=l bs (ak h.1) h.2.1
 ⟨hb.2.trans h.1,hb.1,h.2.2.1.le (by decide) l,h.2.2.2.le (by decide) l⟩
theorem BW {M:az} {s:Se} {ls:List (List Po)} {e:Er} {v0 ve:Value} (w0:World) (hM:Lt M w0) (hs:ch RT.se M w0 v0 s) (he:RT.er.V M w0 e ve) (xY:xM s.2.2.1) (Ej:s.2.2.2=ls.map hU) (Jv:s.2.2.1.length=ls.length) (yo:Jw (lM s.2.2.1 ls (dd e.1))):
  Spec Tryz.prog 24 #[v0,ve] w0 (fun v w=>((RT.int .i64).sl).V M w (mF (lM s.2.2.1 ls (dd e.1)) s.2.1 e.2) v∧Step M w0 M w aA):=by
 obtain⟨eve,⟨O6,Eb⟩,Ec⟩:=BR he;refine aW (args:=[_,_]) (fn:=Tryz.f24) Tryz.func24 rfl (n:=9) Tryz.ntmps24 ?_;have S:Step M w0 M w0 aA:=(an _ _).ca (fun _ h=>h.elim) (fun _ h=>h.elim);refine aj (ah ?_);refine jB (A:=RT.er) (a:=e) rfl rfl hM he rfl (fun u0 w1 cA s0 _=>?_);replace hs:=hs.le (by decide) s0.le;replace he:=he.le s0.le;replace hM:=s0.lt hM;have:=S.size;replace S:=S.ax s0;refine ai rfl rfl (ad (aj (ah (ae rfl rfl ?_))));refine cw (M:=M) (A:=RT.er) dG rfl qS (by decide) rfl rfl rfl cA (aq _ _) (fun vt DS=>?_);refine aM rfl rfl YK (ud _ hM hs DS) (fun r2 w2 hc=>?_);obtain⟨bs,u,rfl,F2,hu,TA,s2⟩:=hc;have YP:=nI (M:=M) (M':=M) ⟨F2,fun h=>by have:=hM _ h;omega,hs.le (by decide) s2.le,hu⟩ (aq _ _);replace hs:=hs.le (by decide) s2.le;replace he:=he.le s2.le;replace cA:=cA.le (by decide) s2.le;replace hM:=s2.lt hM;have:=S.size;replace S:=S.ax s2;refine aM rfl rfl E71 (BV _ hM NJ (rL xY Ej Jv yo O6 Eb) nI YP (fun x hx=>by obtain⟨p,hp,rfl,_⟩:=Hn hx;obtain⟨i,hi⟩:=bN.1 hp;have:=l0 yo.may hi;omega) (by have:=DY (lM s.2.2.1 ls (dd e.1)) s.2.1 e.2;have:=yo.ln;omega)) (fun r3 w3 hc=>?_);obtain⟨NL,s3⟩:=hc;replace hs:=hs.le (by decide) s3.le;replace he:=he.le s3.le;replace cA:=cA.le (by decide) s3.le;replace hM:=s3.lt hM;have:=S.size;replace S:=S.ax s3;refine ai rfl rfl (ad (aH ?_));exact aP rfl rfl ⟨NL,S⟩
end Go.K
namespace Go.K
open Go.Proofs
namespace TKBldJ
theorem OA:TI Tryz.prog 56 (.slice none 0 0) 1 24:=by unfold TI;kernel_rfl
theorem TC:TI Tryz.prog 58 (.agg #[(.slice none 0 0),(.slice none 0 0),(.slice none 0 0),(.slice none 0 0)]) 4 96:=by unfold TI;kernel_rfl
theorem jZ:TI Tryz.prog 107 (.slice none 0 0) 1 24:=by unfold TI;kernel_rfl
theorem E27:Enters Tryz.prog 27:=enters Tryz.func27 rfl (by decide)
theorem E56:Enters Tryz.prog 56:=enters Tryz.func56 rfl (by decide)
theorem E57:Enters Tryz.prog 57:=enters Tryz.func57 rfl (by decide)
theorem E58:Enters Tryz.prog 58:=enters Tryz.func58 rfl (by decide)
theorem E59:Enters Tryz.prog 59:=enters Tryz.func59 rfl (by decide)
end TKBldJ
open TKBldJ
set_option maxRecDepth 10000
set_option maxHeartbeats 4000000 in
theorem ue {M:az} {L:List En} {v0:Value} (w0:World) (hM:Lt M w0) (hv:(RT.en.sl).V M w0 L v0) (hl:∀e∈L,∀f∈e.1.2,f.1.length≤900000∧f.2.length≤900000) (hn:L.length≤100000) (eB:Ab (-1) L=true):
  Spec Tryz.prog 15 #[v0] w0 (fun v w=>∃s,v= .tuple #[s,.int .i64 0]∧ch RT.se M w s (Em (iC L))∧Step M w0 M w aA):=by
 have ku:=hM;have hF:=nF eB
 have WY:(keysOf L).length≤500000000:=by
  have h1:=(jm L).nodup.length_le_of_subset (l₂:=gI L) (fun x hx=>kC.1 hx);have:=qO hF;omega
 have IS:∀k∈keysOf L,k.length≤43:=fun k hk=>rE hF k (kC.1 hk)
 refine aW (args:=[_]) (fn:=Tryz.f15) Tryz.func15 rfl (n:=63) Tryz.ntmps15 ?_;have S:Step M w0 M w0 aA:=(an _ _).ca (fun _ h=>h.elim) (fun _ h=>h.elim);refine aj (ah (ai rfl rfl (ai rfl rfl (ad (aj (ah ?_))))));refine aM rfl rfl E56 (Gv (Z:=fun k=>w0.heap.size≤k) (B:=w0.heap.size) _ hM (a8 _) (fun k hk=>hk)) (fun r1 w1 hc=>?_);obtain⟨M1,b1,rfl,_,fz,s1⟩:=hc;replace fz:=fz.DI (Z':=fun k=>w0.heap.size≤k∧k<w1.heap.size) (fun c hc dy=>⟨hc,dy⟩);replace hv:=hv.le s1.le;replace hM:=s1.lt hM;have:=S.size;replace S:=S.ax s1;refine ai rfl rfl (ad (aj (ah ?_)));refine ff M1 TC rfl (fun fg Iw Vw Vx y4 tu=>?_);obtain⟨Fm,tv⟩:∃M',M'=ins M1 fg:=⟨_,rfl⟩;rw[←tv]at tu;have tw:Fm fg:=by rw[tv];exact .inl rfl
 change Iw.heap[fg]? =some (.cells #[.slice none 0 0,.slice none 0 0,.slice none 0 0,.slice none 0 0] _ _)at y4;replace hv:=hv.le tu.le;replace fz:=fz.bg tu;replace hM:=tu.lt hM;have:=S.size;replace S:=S.ax tu;refine ad (aj (aj (ah (ae rfl rfl (bU gp rfl hv rfl (ae rfl rfl (ad (bj ?_))))))));refine dI (σ:=Nat×Value×Value) (fun q=>[(4,.pointer (some ⟨b1,0,none⟩)),(5,.pointer (some ⟨fg,0,none⟩)),(12,v0),(13,.int .i64 (L.length:Int)),(14,.int .i64 (q.1:Int))]) (fun q w=>∃M' words,Lt M' w∧Step M w0 M' w aA∧(RT.en.sl).V M' w L v0∧lK (ZP w0.heap.size fg q.2.1 q.2.2) M' w w0.heap.size b1 (L.take q.1) words (kW (-1) (L.take q.1))∧w.heap[fg]? =some (.cells #[q.2.1,q.2.2,.slice none 0 0,.slice none 0 0] 58 (0,0))∧M' fg∧Own (RT.int .i64) 3 M' w w0.heap.size q.2.1 ((L.take q.1).map (·.1.1))∧Own (RT.int .i64) 3 M' w w0.heap.size q.2.2 ((L.take q.1).map (·.2))∧iT q.2.1 q.2.2∧0≤words∧words≤500*(q.1:Int)∧q.1≤L.length) (fun q=>L.length-q.1) (0,.slice none 0 0,.slice none 0 0) (.cons rfl (.cons rfl (.cons rfl (.cons rfl (.cons rfl .nil))))) ?_ ?_
 ·exact⟨_,0,hM,S,hv,fz.DI (Z':=ZP w0.heap.size fg (.slice none 0 0) (.slice none 0 0)) (fun c hc dy=>⟨hc.1,(fun h=>by have:=hc.2;omega),(fun h=>by cases h),(fun h=>by cases h)⟩),y4,tw,eo _ _ _ _ _,eo _ _ _ _ _,iT.nil _,by omega,by omega,bH _⟩
 ·clear hM S hv fz;rintro⟨i,vi,vs⟩ w ⟨M2,words,hM,S,hv,fz,g2,cK,lg,lj,IP,WZ,hw2,hi⟩;dsimp only at fz g2 lg lj IP hw2 hi ⊢;refine aj (ah (cf rfl rfl rfl (ad (aj ?_))));refine bF rfl (fun c4=>?_) (fun c4=>?_)
  ·refine aU (aj (bj (aj (ah ?_))));refine dq (M:=M2) gp yR rfl rfl rfl hv (aq _ _) (by omega) (fun u5 e Dn AY=>?_);rw[aC]at Dn;obtain⟨KF,NM⟩:=Hb eB Dn;have hem:=aN Dn;refine cw (M:=M2) (A:=RT.en) cO rfl yR (by decide) rfl rfl rfl AY (aq _ _) (fun v5 ox=>?_);obtain⟨OE,JN⟩:=Ny ox;refine oH (A:=RT.en) (M:=M2) yR rfl rfl rfl rfl rfl (by assumption) (aq _ _) hM (fun Xm af0 rF Ai af1=>?_);have:=ak g2;replace cK:=(Ai.mem _ this).2 cK;replace g2:=Ai.aG g2;replace hv:=hv.le Ai.le;replace lg:=lg.bg Ai;replace lj:=lj.bg Ai;replace fz:=fz.bg Ai;replace hM:=Ai.lt hM;have:=S.size;replace S:=S.ax Ai;refine ad (aj (aj (ah (ae rfl rfl ?_))));refine cw (M:=M2) (A:=RT.en) cO rfl yR (by decide) rfl rfl rfl rF (aq _ _) (fun v6 ov=>?_);refine aM rfl rfl E57 (Gx (Z:=ZP w0.heap.size fg vi vs) _ hM (fun k hk=>⟨by have:=S.size;omega,fun h=>by have:=ak g2;omega,fun h=>by have:=(lg.base k h).2;omega,fun h=>by have:=(lj.base k h).2;omega⟩) fz (by have:=S.size;omega) ov (hl e hem) (fun x hx=>hF x (List.mem_of_mem_take hx)) (by simp;omega) (by omega)) (fun r6 w6 hc=>?_);obtain⟨M6,GP,s6,rfl,_,Lc⟩:=hc;replace fz:=Lc KF;have Kl:(o6 e).length≤500:=(hF e hem).many;refine bp (v':= .int .i64 0) (by rw[KF]) ?_;replace lg:=lg.step s6 (fun c hc h=>h.1.2.2.1 hc);replace lj:=lj.step s6 (fun c hc h=>h.1.2.2.2 hc);replace cK:=(s6.mem _ (ak g2)).2 cK;replace g2:=s6.bE g2 (fun h=>h.1.2.1 rfl);replace hv:=hv.le s6.le;replace rF:=rF.le (by decide) s6.le;replace S:=S.cx s6 (fun k hk=>hk.1.1);replace hM:=GP;rw[NM.symm]at fz;refine ai rfl rfl (ad (aj (ah (ae rfl rfl (eN rfl rfl rfl (ad (T.wT rfl ((fun h=>h rfl)) (aU ?_))))))));have TG:=g2;have R2:=cK
   have Yo:=hv;have R3:=fz;have Ho:=lg;have Hp:=lj;have hMp:=hM;have Sp:=S;obtain⟨P6,YQ⟩:∃P6:Value→World→Prop,P6=fun v w'=>Own (RT.int .i64) 3 (nY v) w' w0.heap.size v ((L.take i).map (·.1.1)++[e.1.1])∧(∀c,v.ownBlock=some c→w6.heap.size≤c∨vi.ownBlock=some c):=⟨_,rfl⟩
   have h6:∀{v:Value} {w w':World},P6 v w→Step M6 w M6 w' aA→P6 v w':=fun {v w w'} h s=>by rw[YQ]at h ⊢;exact⟨h.1.KB s (fun _ _ h=>h),h.2⟩
   apply T.RJ (M:=M6) [0,1,2,3,4,5,6,7,8,9,10,11,13,12,14,15,16] 13 12 37 (.pointer (some ⟨fg,0,none⟩)) [(6,jb vi)] [b9.eq (.pointer (some ⟨fg,0,none⟩)),b9.eq vi,b9.ptr RT.dc e.1,b9.ptr (RT.int .i64) e.1.1,b9.eq (.int .i64 e.1.1),b9.V ((RT.int .i64).sl) [e.1.1],(b9.mk' (fun v w=>P6 v w) (fun h s=>h6 h s)),b9.eq (.pointer (some ⟨fg,1,none⟩)),b9.eq vs,b9.ptr (RT.int .i64) e.2,b9.eq (.int .i64 e.2),b9.V ((RT.int .i64).sl) [e.2],b9.eq (.pointer (some ⟨fg,0,none⟩))] mixed
   ·simp+decide only[uL,qw,iE,List.map_nil,uv,uw,List.map_toArray,fB,mR,List.idxOf_cons,cond_true,cond_false,Nat.reduceBEq,Nat.reduceAdd,beq_self_eq_true];rfl
   ·rfl
   ·rfl
   ·rfl
   ·rfl
   ·rfl
   ·rfl
   ·rfl
   ·rfl
   ·rfl
   ·rfl
   ·rfl
   ·exact fun ρ w h=>BL (size:=1) (o:=0) (o':=0) cC rfl rfl nZ (by decide) (h (.tmp 5) _ rfl) w
   ·intro p hp b hb;simp only[dm,List.not_mem_nil,or_false]at hp;subst hp;exact lg.mut_ b hb
   ·exact fun p hp=>by
     simp only[dm,List.not_mem_nil,or_false]at hp;subst hp;show(6:Nat)≠12;decide
   ·exact rO.st (by exact⟨fun _ _ _ _=>trivial,⟨fun _ _ _ _=>trivial,⟨fun _ _ _ _=>trivial,⟨fun _ _ _ _=>trivial,⟨fun _ _ _ _=>trivial,⟨fun _ _ _ _=>trivial,⟨fun p hp b hb=>(by simp at hp),⟨fun _ _ _ _=>trivial,⟨fun _ _ _ _=>trivial,⟨fun _ _ _ _=>trivial,⟨fun _ _ _ _=>trivial,⟨fun _ _ _ _=>trivial,⟨fun _ _ _ _=>trivial,trivial⟩⟩⟩⟩⟩⟩⟩⟩⟩⟩⟩⟩⟩)
   intro wR9 sA9;have Hq:=sA9 M6;have:=ak g2;replace cK:=(Hq.mem _ this).2 cK;replace g2:=Hq.aG g2;replace hv:=hv.le Hq.le;replace rF:=rF.le (by decide) Hq.le;replace lg:=lg.bg Hq;replace lj:=lj.bg Hq;replace fz:=fz.bg Hq;replace hM:=Hq.lt hM;have:=S.size;replace S:=S.ax Hq;have YR:=g2;have R4:=lg;have af6:=lj;have hz6:=Hq.size;refine⟨?_,?_⟩
   ·refine aF ?_ ?_
    ·intro wD E sD;replace sD:Step M6 _ M6 wD (jb vi):=sD;refine aS (o':=0) cC rfl rfl nZ (by decide) rfl rfl ?_;exact ad ⟨rfl,rfl,_,rfl,rfl,an _ _⟩
    refine aF ?_ ?_
    ·intro wD E sD;replace sD:Step M6 _ M6 wD aA:=sD;refine aw (aE av rfl rfl rfl (sD.aG YR) rfl ?_);exact ad ⟨rfl,rfl,_,rfl,rfl,an _ _⟩
    refine aF ?_ ?_
    ·intro wD E sD;replace sD:Step M6 _ M6 wD (jb vi):=sD;refine aJ (M:=M6) (A:=RT.en) (B:=RT.dc) cO rfl rfl k5 (by decide) P3 rfl rfl (by decide) rF sD.le (fun uf xV=>?_);exact ad ⟨rfl,rfl,_,rfl,xV,an _ _⟩
    refine aF ?_ ?_
    ·intro wD E sD;replace sD:Step M6 _ M6 wD (jb vi):=sD;intro v2 xo;refine aJ (M:=M6) (A:=RT.dc) (B:=RT.int .i64) aO rfl rfl I3 (by decide) P2 rfl rfl (by decide) (show ch RT.dc M6 wD v2 e.1 from xo) (aq _ _) (fun uf xV=>?_);exact ad ⟨rfl,rfl,_,rfl,xV,an _ _⟩
    refine aF ?_ ?_
    ·intro wD E sD;replace sD:Step M6 _ M6 wD (jb vi):=sD;intro v3 uU;refine cd (M:=M6) ar rfl rfl (show ch (RT.int .i64) M6 wD v3 e.1.1 from uU) (aq _ _) (fun lD=>?_);exact ad ⟨rfl,rfl,_,rfl,rfl,an _ _⟩
    refine aF ?_ ?_
    ·intro wD E sD;replace sD:Step M6 _ M6 wD aA:=sD;refine aw ?_;refine eW (A:=RT.int .i64) (hn:=by decide) (M:=M6) av I3 (by decide) rfl rfl (sD.lt hM) (gv OE) (.inr ⟨rfl,rfl⟩) (fun uS wS hS sS=>?_);exact ad ⟨rfl,rfl,_,rfl,hS,sS⟩
    refine aF ?_ ?_
    ·intro wD E sD;replace sD:Step M6 _ M6 wD aA:=sD;refine aw ?_;intro v5 ox;replace sD:Step M6 wR9 M6 wD aA:=sD;refine Rg.kO (M:=M6) (base:=w0.heap.size) av I3 rfl rfl rfl rfl (R4.bg sD) (show((RT.int .i64).sl).V M6 wD [e.1.1] v5 from ox) (aq _ _) (by simp;omega) (by simp;omega) (by have:=sD.size;have:=S.size;omega) (fun vA wA hoA sA hFA=>?_);exact ad ⟨rfl,rfl,_,rfl,by show P6 vA wA;rw[YQ];exact⟨hoA.lone,fun c hc=>(hFA c hc).elim (fun h=> .inl (by have:=sD.size;omega)) .inr⟩,sA.back⟩
    refine aF ?_ ?_
    ·intro wD E sD;replace sD:Step M6 _ M6 wD (jb vi):=sD;refine aS (o':=1) cC rfl rfl nZ (by decide) rfl rfl ?_;exact ad ⟨rfl,rfl,_,rfl,rfl,an _ _⟩
    refine aF ?_ ?_
    ·intro wD E sD;replace sD:Step M6 _ M6 wD (jb vi):=sD;refine aw (aE av rfl rfl rfl (sD.bE YR (fun h=>R4.eL YR (by decide) h)) rfl ?_);exact ad ⟨rfl,rfl,_,rfl,rfl,an _ _⟩
    refine aF ?_ ?_
    ·intro wD E sD;replace sD:Step M6 _ M6 wD (jb vi):=sD;refine aJ (M:=M6) (A:=RT.en) (B:=RT.int .i64) cO rfl rfl I3 (by decide) Tf rfl rfl (by decide) rF sD.le (fun uf xV=>?_);exact ad ⟨rfl,rfl,_,rfl,xV,an _ _⟩
    refine aF ?_ ?_
    ·intro wD E sD;replace sD:Step M6 _ M6 wD (jb vi):=sD;intro v9 IC;refine cd (M:=M6) ar rfl rfl (show ch (RT.int .i64) M6 wD v9 e.2 from IC) (aq _ _) (fun lD=>?_);exact ad ⟨rfl,rfl,_,rfl,rfl,an _ _⟩
    refine aF ?_ ?_
    ·intro wD E sD;replace sD:Step M6 _ M6 wD (jb vi):=sD;refine aw ?_;refine eW (A:=RT.int .i64) (hn:=by decide) (M:=M6) av I3 (by decide) rfl rfl (sD.lt hM) (gv JN) (.inr ⟨rfl,rfl⟩) (fun uS wS hS sS=>?_);exact ad ⟨rfl,rfl,_,rfl,hS,sS⟩
    refine aF ?_ ?_
    ·intro wD E sD;replace sD:Step M6 _ M6 wD (jb vi):=sD;refine aw (aw ?_);intro v2 xo;intro v3 uU;refine aw ?_;intro v5 ox;intro v6 ov;refine aw (aw (aS (o':=0) cC rfl rfl nZ (by decide) rfl rfl ?_));exact ad ⟨rfl,rfl,_,rfl,rfl,an _ _⟩
    exact bD.nil
   ·intro Ou CN;replace CN:Step M6 _ M6 Ou (jb vi):=CN;refine aw (aw ?_);intro Wz Gz;intro af9 abY;refine aw ?_;intro aga abZ;intro x8 CR;refine aw (aw ?_);intro agb ab0;refine aw ?_;intro R5 BX;refine aw ?_;replace CR:P6 x8 Ou:=CR;rw[YQ]at CR;obtain⟨ry,YS⟩:=CR;replace BX:((RT.int .i64).sl).V M6 Ou [e.2] R5:=BX;have sX:Step M6 w6 M6 Ou (jb vi):=(Hq.ca (fun _ h=>h.elim) (fun b h=>Ho.mut_ b h)).trans CN (fun b _ h=>h);have YT:=Hp.step sX (fun c hc h=>IP c h hc);refine Rg.kO (M:=M6) (base:=w0.heap.size) av I3 rfl rfl rfl rfl YT BX (aq _ _) (by simp;omega) (by simp;omega) (by have:=Sp.size;have:=sX.size;omega) (fun v12 Fq YU kL R6=>?_)
    have F8:∀c,x8.ownBlock=some c→vs.ownBlock≠some c:=fun c hc hv=>by
     rcases YS c hc with h|h
     ·have:=(Hp.base c hv).2;omega
     ·exact IP c h hv
    have R7:=ry.KB kL (fun c hc h=>F8 c hc h)
    have R8:iT v12 x8:=fun c hc R9=>by
     rcases R6 c hc with h|h
     ·have:=(ry.base c R9).2;omega
     ·exact F8 c R9 h
    have Ju:∀c,v12.ownBlock=some c→w6.heap.size≤c∨vs.ownBlock=some c:=fun c hc=>(R6 c hc).elim (fun h=> .inl (by have:=sX.size;omega)) .inr
    have sZ:Step M6 w6 (ja M6 v12) Fq (fun k=>jb vi k∨jb vs k):=(sX.ca (fun _ h=> .inl h) (fun b h=>h.elim (Ho.mut_ b) (Hp.mut_ b))).trans kL (fun b _ h=> .inr h);obtain⟨Sa,NN⟩:∃M',M'=ja (ja M6 v12) x8:=⟨_,rfl⟩;have sW:Step M6 w6 Sa Fq (fun k=>jb vi k∨jb vs k):=by rw[NN];exact sZ.Ye (fun c hc=>⟨(R7.base c hc).2,(YS c hc).elim .inl (fun h=> .inr (.inr (Ho.mut_ c h)))⟩)
    have lg:=R7.Ii (M':=Sa) (by rw[NN];exact fun b hb=> .inl hb);have lj:=YU.Ii (M':=Sa) (by rw[NN];exact fun b hb=> .inr (.inl hb));have cK:=(sW.mem _ (ak TG)).2 R2;have g2:=sW.bE TG (fun h=>h.elim (Ho.eL TG (by decide)) (Hp.eL TG (by decide)));have fz:=((R3.DI (Z':=fun k=>ZP w0.heap.size fg vi vs k∧ZP w0.heap.size fg x8 v12 k) (fun c hc dy=>⟨hc,hc.1,hc.2.1,fun h=>(YS c h).elim (fun h=>by omega) hc.2.2.1,fun h=>(Ju c h).elim (fun h=>by omega) hc.2.2.2⟩)).step sW (fun k hk hz=>hk.elim hz.1.2.2.1 hz.1.2.2.2)).DI (Z':=ZP w0.heap.size fg x8 v12) (fun c hc _=>hc.2);have hv:=Yo.le sW.le;have S:=Sp.cx sW (fun k hk=>hk.elim (fun h=>(Ho.base k h).1) (fun h=>(Hp.base k h).1));have hM:=sW.lt hMp;refine ad ⟨rfl,rfl,fun h=>absurd rfl h,?_⟩;refine bP (M:=Sa) nZ rfl rfl g2 rfl (by obtain⟨_,_,he,_⟩:=lg.isSlice;rw[he];rfl) cK (fun Qn g14 jy=>?_);replace g14:Qn.heap[fg]? =some (.cells #[x8,vs,.slice none 0 0,.slice none 0 0] 58 (0,0)):=g14;replace lg:=lg.step jy (fun c hc (h:c=fg)=>lg.eL g2 (by decide) (h▸hc));replace lj:=lj.step jy (fun c hc (h:c=fg)=>lj.eL g2 (by decide) (h▸hc));replace cK:=(jy.mem _ (ak g2)).2 cK;replace fz:=fz.step jy (fun k (hk:k=fg) hz=>hz.2.1 hk);replace hv:=hv.le jy.le;replace S:=S.cx jy (fun k (hk:k=fg)=>by rw[hk];omega);replace hM:=jy.lt hM;clear g2;have g2:=g14;refine ad ⟨rfl,rfl,fun h=>absurd rfl h,?_⟩;refine aS (o':=1) cC rfl rfl nZ (by decide) rfl rfl ?_;refine ad ⟨rfl,rfl,fun h=>absurd rfl h,?_⟩;refine bP (M:=Sa) nZ rfl rfl g2 rfl (by obtain⟨_,_,he,_⟩:=lj.isSlice;rw[he];rfl) cK (fun Ji g16 yn=>?_);replace g16:Ji.heap[fg]? =some (.cells #[x8,v12,.slice none 0 0,.slice none 0 0] 58 (0,0)):=g16;replace lg:=lg.step yn (fun c hc (h:c=fg)=>lg.eL g2 (by decide) (h▸hc));replace lj:=lj.step yn (fun c hc (h:c=fg)=>lj.eL g2 (by decide) (h▸hc));replace cK:=(yn.mem _ (ak g2)).2 cK
    replace fz:=fz.step yn (fun k (hk:k=fg) hz=>hz.2.1 hk);replace hv:=hv.le yn.le;replace S:=S.cx yn (fun k (hk:k=fg)=>by rw[hk];omega);replace hM:=yn.lt hM;clear g2;have g2:=g16;refine ad ⟨rfl,rfl,fun h=>absurd rfl h,?_⟩;refine uE (ah (bz rfl rfl rfl (by omega) (ae rfl rfl (ad ?_))));have et:L.take (i+1)=L.take i++[e]:=by rw[cr,Dn,cY]
    rw[et]at fz;refine⟨rfl,(i+1,x8,v12),(.cons rfl (.cons rfl (.cons rfl (.cons rfl (.cons rfl .nil))))),?_,?_⟩
    ·exact⟨_,_,hM,S,hv,by rw[et];exact fz,g2,cK,by rw[et,jR];exact lg,by rw[et,jR];exact lj,R8.symm,by omega,by dsimp only;omega,by dsimp only;omega⟩
    ·dsimp only;omega
  ·refine cM (aj (ah ?_));have hLi:L.take i=L:=bI (by omega);rw[hLi]at fz lg lj;refine ae rfl rfl ?_;refine aM rfl rfl E58 (Bx _ hM fz hF (by omega)) (fun rk Rz hc=>?_);obtain⟨wK,o7⟩:=hc;have:=ak g2;replace cK:=(o7.mem _ this).2 cK;replace g2:=o7.aG g2;replace hv:=hv.le o7.le;replace lg:=lg.bg o7;replace lj:=lj.bg o7;replace fz:=fz.bg o7;replace hM:=o7.lt hM;have:=S.size;replace S:=S.ax o7;refine aS (o':=2) cC rfl rfl HH (by decide) rfl rfl ?_;refine bP (M:=M2) HH rfl rfl g2 rfl (km wK rfl rfl) cK (fun zg cp eC=>?_);change zg.heap[_]? =some (Obj.cells #[vi,vs,rk,.slice none 0 0] _ _)at cp;have:=ak g2;replace cK:=(eC.mem _ this).2 cK;replace hv:=hv.le eC.le;replace wK:=wK.le eC.le;replace lg:=lg.step eC (fun c hc (h:c=fg)=>lg.eL g2 (by decide) (h▸hc));replace lj:=lj.step eC (fun c hc (h:c=fg)=>lj.eL g2 (by decide) (h▸hc));replace fz:=fz.stepT eC (by first|exact fun k hk=>by(obtain⟨cs,hc⟩:=o5.isCells hk;exact⟨cs,_,hc,by decide,by decide,by decide⟩)|exact fun k (hk:k=fg)=>⟨_,_,hk▸g2,by decide,by decide,by decide⟩);replace hM:=eC.lt hM;have:=S.size;replace S:=S.trans eC (fun k hk h=>by have h:_=_:=h;subst h;first|(exfalso;omega)|(show _≤_;omega)|exact⟨by first|omega|assumption,(S.mem _ hk).1 ((eC.mem _ (ak g2)).1 cK)⟩|exact .inl rfl|exact .inr rfl|exact .inr (.inl rfl)|exact .inr (.inr rfl)|exact rfl);have FQ:=cp;clear g2;have g2:=FQ;clear FQ;refine ad (aj (aj (ah (aS (o':=2) cC rfl rfl HH (by decide) rfl rfl (aE bh rfl rfl rfl g2 rfl (bp (v':=rk) rfl (bU bh rfl wK rfl (ae rfl rfl (ad (bj ?_))))))))));refine dI (σ:=Nat×Value) (fun q=>[(4,.pointer (some ⟨b1,0,none⟩)),(5,.pointer (some ⟨fg,0,none⟩)),(44,rk),(45,.int .i64 ((keysOf L).length:Int)),(46,.int .i64 (q.1:Int))]) (fun q w=>∃M',Lt M' w∧Step M w0 M' w aA∧lK (ZP w0.heap.size fg vi vs) M' w w0.heap.size b1 L words (kW (-1) L)∧w.heap[fg]? =some (.cells #[vi,vs,rk,q.2] 58 (0,0))∧M' fg∧Own (RT.int .i64) 3 M' w w0.heap.size vi (L.map (·.1.1))∧Own (RT.int .i64) 3 M' w w0.heap.size vs (L.map (·.2))∧Own ((RT.po).sl) 107 M' w w0.heap.size q.2 (((keysOf L).take q.1).map (pk L))∧(RT.str.sl).V M' w (keysOf L) rk∧q.1≤(keysOf L).length) (fun q=>(keysOf L).length-q.1) (0,.slice none 0 0) (.cons rfl (.cons rfl (.cons rfl (.cons rfl (.cons rfl .nil))))) ?_ ?_
   ·exact⟨_,hM,S,fz,g2,cK,lg,lj,eo _ _ _ _ _,wK,bH _⟩
   ·clear hM S fz g2 cK lg lj wK hv;rintro⟨i3,vl⟩ w ⟨M3,hM,S,fz,g2,cK,lg,lj,o5,wK,TV⟩;dsimp only at g2 o5 TV ⊢;refine aj (ah (cf rfl rfl rfl (ad (aj ?_))));refine bF rfl (fun IB=>?_) (fun IB=>?_)
    ·refine aU (aj (bj (aj (ah ?_))));refine dq (M:=M3) bh I9 rfl rfl rfl wK (aq _ _) (by omega) (fun u14 k NO YV=>?_);rw[aC]at NO;refine cg (M:=M3) aD rfl rfl rfl rfl rfl YV (aq _ _) (fun vk hvk=>?_);obtain rfl:=fD hvk;refine ai rfl rfl (ad ?_);apply T.oh 4 [0,1] 2 aA mixed rfl rfl rfl rfl;intro MY GU;have mO:=GU M3;have:=ak g2;replace cK:=(mO.mem _ this).2 cK;replace g2:=mO.aG g2;replace wK:=wK.le mO.le;replace lg:=lg.bg mO;replace lj:=lj.bg mO;replace o5:=o5.bg mO;replace fz:=fz.bg mO;replace hM:=mO.lt hM;have:=S.size;replace S:=S.ax mO;refine aS (o':=3) cC rfl rfl OA (by decide) rfl rfl ?_;refine ad ⟨rfl,rfl,rfl,?_⟩;refine aE Tryz.underlying56 rfl rfl rfl (by first|assumption|exact bS mO (by assumption)) rfl ?_;refine ad ⟨rfl,rfl,rfl,?_⟩;refine ae rfl rfl ?_;refine ad ⟨rfl,rfl,rfl,?_⟩;refine ae rfl rfl ?_;refine ad ⟨rfl,rfl,rfl,?_⟩;refine fE ?_;refine⟨jP ⟨gq cC rfl OA (by decide),⟨ep rfl g2 (fun h=>h),trivial⟩⟩,?_⟩;have kp:=jw aA MY;refine aM rfl rfl E59 (By (k:=k) _ hM fz hF (by omega) (by have:=IS k (aN NO);omega)) (fun r15 Qd hc=>?_);obtain⟨GB,xE⟩:=hc;have:=ak g2;replace cK:=(xE.mem _ this).2 cK;replace g2:=xE.aG g2;replace wK:=wK.le xE.le;replace lg:=lg.bg xE;replace lj:=lj.bg xE;replace o5:=o5.bg xE;replace fz:=fz.bg xE;replace hM:=xE.lt hM;have:=S.size;replace S:=S.ax xE;refine(fun(kp:dR _ _ _)=>ad ⟨rfl,rfl,fun _=>kp,?_⟩) (by first|exact kp|exact kp.qu (by assumption)|exact kp.goN (by assumption)|exact kp.go (by assumption) (fun _ _ h=>by first|exact h|exact h.elim));refine eW (A:=((RT.po).sl)) (hn:=by decide) (M:=M3) Tryz.underlying56 jZ (by decide) rfl rfl hM (GB) (.inr ⟨rfl,rfl⟩) (fun ab1 Ks ug iv=>?_)
     have:=ak g2;replace cK:=(iv.mem _ this).2 cK;replace g2:=iv.aG g2;replace wK:=wK.le iv.le;replace GB:=GB.le iv.le;replace lg:=lg.bg iv;replace lj:=lj.bg iv;replace o5:=o5.bg iv;replace fz:=fz.bg iv;replace hM:=iv.lt hM;have:=S.size;replace S:=S.ax iv;refine(fun(kp:dR _ _ _)=>ad ⟨rfl,rfl,fun _=>kp,?_⟩) (by first|exact kp|exact kp.qu (by assumption)|exact kp.goN (by assumption)|exact kp.go (by assumption) (fun _ _ h=>by first|exact h|exact h.elim));refine dh (M:=M3) (base:=w0.heap.size) Tryz.underlying56 jZ rfl rfl rfl rfl o5 ug (aq _ _) (by simp;omega) (by simp;omega) (S.size) (fun KG Sb ab2 NP oA=>?_);have:=ak g2;replace cK:=(oA.mem _ this).2 cK;replace g2:=oA.bE g2 (fun h=>by first|exact o5.dE g2 h|exact o5.eL g2 (by decide) h|(have:=(o5.base _ h).1;omega));replace wK:=wK.le oA.le;replace GB:=GB.le oA.le;replace ug:=ug.le oA.le;replace lg:=lg.step oA (fun b h1 h2=>lg.iM o5 (by decide) h1 h2);replace lj:=lj.step oA (fun b h1 h2=>lj.iM o5 (by decide) h1 h2);replace fz:=fz.stepT oA (by first|exact fun k hk=>by(obtain⟨cs,hc⟩:=o5.isCells hk;exact⟨cs,_,hc,by decide,by decide,by decide⟩)|exact fun k (hk:k=fg)=>⟨_,_,hk▸g2,by decide,by decide,by decide⟩);replace hM:=oA.lt hM;have:=S.size;replace S:=S.dC oA o5 (a8 _);replace o5:=NP;refine ad ⟨rfl,rfl,fun h=>absurd rfl h,?_⟩;refine aS (o':=3) cC rfl rfl OA (by decide) rfl rfl ?_;refine ad ⟨rfl,rfl,fun h=>absurd rfl h,?_⟩;refine bP (M:=Sb) OA rfl rfl g2 rfl (by obtain⟨_,_,he,_⟩:=o5.isSlice;rw[he];rfl) cK (fun Sc KH nJ=>?_);change Sc.heap[_]? =some (Obj.cells #[vi,vs,rk,KG] _ _)at KH;have:=ak g2;replace cK:=(nJ.mem _ this).2 cK;replace wK:=wK.le nJ.le;replace GB:=GB.le nJ.le;replace ug:=ug.le nJ.le;replace lg:=lg.step nJ (fun c hc (h:c=fg)=>lg.eL g2 (by decide) (h▸hc))
     replace lj:=lj.step nJ (fun c hc (h:c=fg)=>lj.eL g2 (by decide) (h▸hc));replace o5:=o5.step nJ (fun c hc (h:c=fg)=>o5.eL g2 (by decide) (h▸hc));replace fz:=fz.stepT nJ (by first|exact fun k hk=>by(obtain⟨cs,hc⟩:=o5.isCells hk;exact⟨cs,_,hc,by decide,by decide,by decide⟩)|exact fun k (hk:k=fg)=>⟨_,_,hk▸g2,by decide,by decide,by decide⟩);replace hM:=nJ.lt hM;have:=S.size;replace S:=S.trans nJ (fun k hk h=>by have h:_=_:=h;subst h;first|(exfalso;omega)|(show _≤_;omega)|exact⟨by first|omega|assumption,(S.mem _ hk).1 ((nJ.mem _ (ak g2)).1 cK)⟩|exact .inl rfl|exact .inr rfl|exact .inr (.inl rfl)|exact .inr (.inr rfl)|exact rfl);have FQ:=KH;clear g2;have g2:=FQ;clear FQ;refine ad ⟨rfl,rfl,fun h=>absurd rfl h,?_⟩;refine uE (ah (bz rfl rfl rfl (by omega) (ae rfl rfl (ad ?_))));refine⟨rfl,(i3+1,KG),(.cons rfl (.cons rfl (.cons rfl (.cons rfl (.cons rfl .nil))))),?_,?_⟩
     ·exact⟨_,hM,S,fz,g2,cK,lg,lj,by rw[cr,NO,cY,jR];exact o5,wK,by dsimp only;omega⟩
     ·dsimp only;omega
    ·refine cM (aj (ah (gG (vs:=[vi,vs,rk,vl]) cC rfl TC rfl rfl rfl g2 ?_)));rw[bI (by omega)]at o5;have QU:RT.pa.V M _ (iC L) _:=Wi (x:=iC L) (lg.close ku S (by show(L.map _).length≤_;rw[cN];omega)) (lj.close ku S (by show(L.map _).length≤_;rw[cN];omega)) (wK.le (Le.close ku S)) (o5.close ku S (by show((keysOf L).map _).length≤_;rw[cN];omega));replace S:=S.back;replace hM:=S.lt ku;refine aM rfl rfl E27 (BJ (p:=iC L) _ hM QU (Jq hF (by omega))) (fun r17 w17 hc=>?_);obtain⟨XT,Sd,_⟩:=hc;obtain⟨sg,rfl,xq⟩:=Sd (Nx eB (by omega));replace S:=S.ax XT;refine bO rfl rfl rfl (bO rfl rfl rfl (ai rfl rfl (ai rfl rfl (ad (aH ?_)))));exact ez rfl rfl rfl ⟨sg,rfl,xq,S⟩
end Go.K
namespace Go.K
open Go.Proofs
namespace TKSegF
theorem Sf:placesOf Tryz.prog 127=[(0,1),(1,1)].map some:=by kernel_rfl
theorem OF:Enters Tryz.prog 15:=enters Tryz.func15 rfl (by decide)
theorem YW:Enters Tryz.prog 67:=enters Tryz.func67 rfl (by decide)
theorem TE:Enters Tryz.prog 70:=enters Tryz.func70 rfl (by decide)
end TKSegF
open TKSegF
set_option maxRecDepth 10000
theorem qT {id:Int}:∀(fs:List Fd) (i:Nat) (out:List Fd),kN (id,out)=0→kN (id,lG id i out fs)=0
 |[],_,_,h=>h
 |x::fs,i,out,h=>by
  unfold lG
  split
  ·split
   ·rename_i h1;exact qT fs _ _ h1
   ·exact qT fs _ _ h
  ·exact h
theorem mi {id:Int}:∀(fs:List Fd) (i:Nat) (out:List Fd),oV out→oV (lG id i out fs)
 |[],_,_,h=>h
 |x::fs,i,out,h=>by
  unfold lG
  split
  ·rename_i hi
   split
   ·exact mi fs _ _ (h.snoc (tD x hi))
   ·exact mi fs _ _ h
  ·exact h
theorem DZ (d:Dc):kN (mA d)=0:=qT d.2 0 [] rfl
theorem Aj (d:Dc):oV (mA d).2:=mi d.2 0 [] (fun x h=>by cases h)
theorem Ak {e:En}:∀{L:List En} {last:Int},Ab last (L++[e])=(Ab last L&&decide (jY (kW last L) e=0))
 |[],last=>by show(decide (jY last e=0)&&true)=(true&&decide (jY last e=0));rw[iG,dx]
 |x::L,last=>by rw[iV];show(decide (jY last x=0)&&Ab x.2 (L++[e]))=(decide (jY last x=0)&&Ab x.2 L&&decide (jY (kW x.2 L) e=0));rw[Ak (L:=L),Bool.and_assoc]
theorem uh {e:En}:∀{L:List En} {last:Int},kW last (L++[e])=e.2
 |[],_=>rfl
 |x::L,last=>by simp only[iV,kW];exact uh
theorem Al (l:List Dc) {a s:Int} (ha:0≤a) (hs:1≤s):∀k,Ab (-1) (fx l a s k)=true∧kW (-1) (fx l a s k)<a+s*(k:Int)
 |0=>⟨rfl,by show(-1:Int)<_;simp;omega⟩
 |k+1=>by
  obtain⟨h1,h2⟩:=Al l ha hs k;have e1:a+s*((k+1:Nat):Int)=a+s*(k:Int)+s:=by rw[Int.natCast_add,Int.mul_add];simp;omega
  cases h:l[k]? with
  |none=>rw[tI (List.getElem?_eq_none_iff.1 h),e1];exact⟨h1,by omega⟩
  |some d=>
   rw[tH h,Ak,uh,h1,e1]
   have:jY (kW (-1) (fx l a s k)) (mA d,a+s*(k:Int))=0:=by
    unfold jY;rw[if_neg (fun h=>h (DZ d)),if_neg (by show¬(a+s*(k:Int)≤_);omega)]
   exact⟨by rw[this];rfl,by show a+s*(k:Int)<_;omega⟩
theorem wL {l:List Dc} {a s:Int}:∀{k:Nat} {e:En},e∈fx l a s k→∃d,e.1=mA d
 |0,e,h=>by cases h
 |k+1,e,h=>by
  rw[fx]at h;rcases cZ.1 h with h|h
  ·exact wL h
  ·split at h
   ·rename_i d _;rw[cn.1 h];exact⟨d,rfl⟩
   ·cases h
theorem BY {l:List Dc} {a s:Int} {k:Nat}:∀e∈fx l a s k,∀f∈e.1.2,f.1.length≤900000∧f.2.length≤900000:=fun e he f hf=>by
 obtain⟨d,hd⟩:=wL he;rw[hd]at hf;have:=Aj d f hf;omega
theorem Am:words [97]=[[97]]:=by
 have h:eg [97]=[97]:=by rw[l3 (by simp)];simp[dec,yQ,iA,iu,nQ]
 unfold words;rw[h];simp[eQ];rfl
theorem Hr:b8 [([116],[97])]=[(([116],[97]),0)]:=by
 show gg ([116],[97])++[]=_;unfold gg;rw[Am];rfl
end Go.K
namespace Go.K
open Go.Proofs
namespace TKErsD
theorem qS:TI Tryz.prog 51 (.agg #[(.string ⟨#[]⟩),(.string ⟨#[]⟩),(.int .i64 0)]) 3 40:=by unfold TI;kernel_rfl
theorem OG:placesOf Tryz.prog 51=[(0,2),(2,1)].map some:=by kernel_rfl
theorem Sf:placesOf Tryz.prog 127=[(0,1),(1,1)].map some:=by kernel_rfl
theorem OF:Enters Tryz.prog 15:=enters Tryz.func15 rfl (by decide)
theorem E24:Enters Tryz.prog 24:=enters Tryz.func24 rfl (by decide)
end TKErsD
open TKErsD
set_option maxRecDepth 10000
abbrev An:List En:=[((0,[([116],[97])]),1),((0,[([116],[97])]),5)]
theorem Hs:Ab (-1) An=true:=by
 have h:∀a b:Int,a<b→jY a ((0,[([116],[97])]),b)=0:=by
  intro a b hab
  have hm:kN (0,[([116],[97])])=0:=by
   unfold kN;simp only[tB,Am];decide
  unfold jY;rw[if_neg (fun h=>h hm),if_neg (by show¬b≤a;omega)]
 show(decide (jY (-1) ((0,[([116],[97])]),1)=0)&&(decide (jY 1 ((0,[([116],[97])]),5)=0)&&true))=true;rw[h (-1) 1 (by decide),h 1 5 (by decide)];rfl
theorem Jy:Jw (lM (Em (iC An)).2.2.1 ((keysOf An).map (pk An)) (dd ([116],[97]))):=by
 show Jw (lM (keysOf An) _ _);rw[BO];exact Hk (nF Hs) (by decide) _
theorem NQ:(pk An (dd ([116],[97]))).map (fun p:Po=>p.1)=[0,1]:=by
 show(Bo 0 (b8 [([116],[97])]) (dd ([116],[97]))++(Bo 1 (b8 [([116],[97])]) (dd ([116],[97]))++[])).map (fun p:Po=>p.1)=_;rw[Hr];decide
theorem D0:mF (lM (Em (iC An)).2.2.1 ((keysOf An).map (pk An)) (dd ([116],[97]))) (Em (iC An)).2.1 3=[0]:=by
 show mF (lM (keysOf An) _ _) [1,5] 3=[0];rw[BO];unfold mF;rw[NQ];decide
theorem pW {M:az} (w0:World) (hM:Lt M w0):
  Spec Tryz.prog 26 #[] w0 (fun v w=>v= .bool true∧Step M w0 M w aA):=by
 refine aW (args:=[]) (fn:=Tryz.f26) Tryz.func26 rfl (n:=32) Tryz.ntmps26 ?_;have S:Step M w0 M w0 aA:=(an _ _).ca (fun _ h=>h.elim) (fun _ h=>h.elim);refine aj (ah (ai rfl rfl (ad (aj (ah (dX (places:=[(0,1),(1,1)]) bR iB Sf rfl ⟨_,_,rfl,rfl,_,_,rfl,rfl,rfl⟩ (out:=[_,_]) ⟨0,[_],rfl,rfl,by simp[Value.cells],1,[_],rfl,rfl,by simp[Value.cells],rfl⟩ ?_))))));refine eW (A:=RT.fd) (hn:=by decide) (M:=M) aV iB (by decide) rfl rfl hM (xG (t:=([116],[97])) (by decide) (by decide)) (.inl rfl) (fun YX II oB oY=>?_);replace hM:=oY.lt hM;have:=S.size;replace S:=S.ax oY;refine dX (places:=[(0,1),(1,1)]) aO k5 Ph rfl ⟨_,_,rfl,rfl,rfl⟩ (out:=[.int .i64 0,_]) ⟨1,[_],rfl,iI oB,by simp[Value.cells],rfl⟩ ?_;have JU:RT.dc.V M _ (0,[([116],[97])]) (.agg #[.int .i64 0,YX]):=ei (gv (by decide)) oB rfl rfl rfl rfl;refine oH (A:=RT.dc) (M:=M) k5 rfl rfl rfl rfl rfl (by assumption) (aq _ _) hM (fun Fh xA fH s1_3 age=>?_);replace oB:=oB.le s1_3.le;replace hM:=s1_3.lt hM;have:=S.size;replace S:=S.ax s1_3;refine ad (aj (ah ?_));refine cw (M:=M) (A:=RT.dc) aO rfl k5 (by decide) rfl rfl rfl fH (aq _ _) (fun v CI=>?_);obtain⟨Iw,rfl⟩:=xC CI;refine dX (places:=[(0,2),(2,1)]) cO yR S8 rfl ⟨_,_,rfl,rfl,_,_,rfl,rfl,rfl⟩ (out:=[_,_,_]) ⟨0,[_,_],rfl,rfl,by simp[Value.cells],2,[_],rfl,rfl,by simp[Value.cells],rfl⟩ ?_;refine cw (M:=M) (A:=RT.dc) aO rfl k5 (by decide) rfl rfl rfl fH (aq _ _) (fun v KI=>?_);obtain⟨RD,rfl⟩:=xC KI;refine dX (places:=[(0,2),(2,1)]) cO yR S8 rfl ⟨_,_,rfl,rfl,_,_,rfl,rfl,rfl⟩ (out:=[_,_,_]) ⟨0,[_,_],rfl,rfl,by simp[Value.cells],2,[_],rfl,rfl,by simp[Value.cells],rfl⟩ ?_;refine Rg.OK (A:=RT.en) (hn:=by decide) (M:=M) (xs:=An) gp yR rfl (by decide) rfl ⟨_,_,_,rfl,rfl,rfl,Cq CI (by decide),_,_,_,rfl,rfl,rfl,Cq KI (by decide),rfl⟩ rfl hM (.inl rfl) (by decide) (fun u4 w4 AA s4=>?_)
 replace oB:=oB.le s4.le;replace fH:=fH.le (by decide) s4.le;replace hM:=s4.lt hM;have:=S.size;replace S:=S.ax s4;refine aM rfl rfl OF (ue (L:=An) _ hM AA (fun e he f hf=>by simp only[An,dm,List.mem_nil_iff,or_false]at he;rcases he with rfl|rfl<;>(simp only[cn]at hf;subst hf;decide)) (by decide) Hs) (fun r5 w5 hc=>?_);obtain⟨sb,rfl,TH,s5⟩:=hc;obtain⟨ab,rfl⟩:=TH.jr;replace oB:=oB.le s5.le;replace fH:=fH.le (by decide) s5.le;replace AA:=AA.le s5.le;replace hM:=s5.lt hM;have:=S.size;replace S:=S.ax s5;refine ae rfl rfl (bO rfl rfl rfl (bO rfl rfl rfl (ai rfl rfl (ai rfl rfl (ad (aj (aj (ah (ae rfl rfl (Rg.pz Tryz.underlying25 rfl rfl rfl (ad ?_)))))))))));refine T.wT rfl ((by simp)) (aU (aj (ah (ae rfl rfl (dX (places:=[(0,1),(1,1)]) cb rq ZV rfl ⟨_,_,rfl,rfl,_,_,rfl,rfl,rfl⟩ (out:=[_,_]) ⟨0,[_],rfl,rfl,by simp[Value.cells],1,[_],rfl,rfl,by simp[Value.cells],rfl⟩ (dX (places:=[(0,2),(2,1)]) dG qS OG rfl ⟨_,_,rfl,rfl,_,_,rfl,rfl,rfl⟩ (out:=[_,_,_]) ⟨0,[_,_],rfl,rfl,by simp[Value.cells],2,[_],rfl,rfl,by simp[Value.cells],rfl⟩ ?_))))));refine aM rfl rfl E24 (BW (e:=(([116],[97]),3)) (ls:=(keysOf An).map (pk An)) _ hM TH (KD ⟨by decide,by decide⟩ (by decide)) (jm An) rfl (by rw[cN];rfl) Jy) (fun r3 w3 hc=>?_);obtain⟨NL,s3⟩:=hc;rw[D0]at NL;replace oB:=oB.le s3.le;replace fH:=fH.le (by decide) s3.le;replace AA:=AA.le s3.le;replace TH:=TH.le (by decide) s3.le;replace hM:=s3.lt hM;have:=S.size;replace S:=S.ax s3;refine ai rfl rfl (ad (aj (ah (ae rfl rfl (bU av rfl NL rfl (Rg.Ay rfl rfl rfl (ae rfl rfl (Rg.JK (g:=26) rfl (rfl) (al rfl rfl (ae rfl rfl (al rfl rfl ?_)))))))))));refine dq (M:=M) av I3 rfl rfl rfl NL (aq _ _) (by decide) (fun u9 e HK Mj=>?_)
 refine al rfl rfl ?_;refine cd (M:=M) ar rfl rfl Mj (aq _ _) (fun lD=>?_);obtain rfl:e=0:=by simpa using HK.symm
 refine al rfl rfl (Rg.Ay rfl rfl rfl (aQ rfl rfl rfl (ai rfl rfl (ad (aH ?_)))));exact aP rfl rfl ⟨rfl,S⟩
end Go.K
namespace Go.K
variable {P:Program} {r:Option Nat} {n:Nat} {L:Sl} {ds:List Deferred} {w:World} {K:Kt} {ops:Array Oper} {rest:List Oper} {d:Nat} {x y:Operand} {ty:TypeId} {pos:String} {af:Array Edge} {α:Type} {A:RT α}
def BZ {α:Type} (A:RT α):Prop:=∀(M M':az) (w w':World) (x:α) (vs:List Value),A.R M w x vs→A.R M' w' x vs
theorem ey.Jz {M M':az} {w w':World} (hA:BZ A):∀{xs:List α} {C:List Value},ey A M w xs C→ey A M' w' xs C
 |[],_,h=>h
 |_::_,_,⟨vs,rest,h1,h2,h3⟩=>⟨vs,rest,h1,hA _ _ _ _ _ _ h2,ey.Jz hA h3⟩
theorem Own.JA {e:TypeId} {M:az} {base b:Nat} {v:Value} {xs:List α} (h:Own A e M w base v xs) (hb:v.ownBlock=some b):∃cs,w.heap[b]? =some (.cells cs e (0,0)):=by
 obtain⟨⟨C,hr,_⟩,_⟩:=h;rcases hr.2 with⟨h1,h2⟩|⟨g,cap,cur,h1,h2,h3,_⟩
 ·rw[h1]at hb;cases hb
 ·rw[h1]at hb;cases hb;exact⟨_,h3⟩
structure pX {α:Type} (A:RT α) (hn:0<A.n) (e:TypeId) (M:az) (w:World) (base:Nat) (v:Value) (xs:List α):Prop where
 h:Own A e M w base v xs∨∃a,v= .slice a xs.length xs.length∧(a=none→xs=[])∧(A.sl hn).V (rm M v) w xs v
 c:∀b,v.ownBlock=some b→base≤b∧M b∧∃cs,w.heap[b]? =some (.cells cs e (0,0))
section
variable {hn:0<A.n} {e:TypeId} {M M' N:az} {w':World} {base:Nat} {v:Value} {xs:List α}
theorem pX.own (h:Own A e M w base v xs):pX A hn e M w base v xs:=⟨.inl h,fun b hb=>⟨(h.base b hb).1,h.mut_ b hb,h.JA hb⟩⟩
theorem pX.step (h:pX A hn e M w base v xs) (s:Step M w M' w' N) (hN:∀b,v.ownBlock=some b→¬N b):pX A hn e M' w' base v xs:=by
 have hle:Le (rm M v) w (rm M' v) w':=fun b hb hm=>by
  by_cases hv:v.ownBlock=some b
  ·exact⟨fun h=>h.2 hv,s.same b hb (hN b hv)⟩
  ·have hM: ¬M b:=fun h=>hm ⟨h,hv⟩
   exact⟨fun h=>hM ((s.mem b hb).1 h.1),s.same b hb fun h=>hM (s.sub b h)⟩
 refine⟨h.h.imp (fun ho=>ho.step s hN) (fun⟨a,h1,h2,h3⟩=>⟨a,h1,h2,h3.le hle⟩),fun b hb=>?_⟩;obtain⟨h1,h2,cs,h3⟩:=h.c b hb;exact⟨h1,(s.mem b (ak h3)).2 h2,cs,s.bE h3 (hN b hb)⟩
theorem pX.view (h:pX A hn e M w base v xs) (hlen:xs.length≤140737488355328):(A.sl hn).V (rm M v) w xs v:=by
 rcases h.h with h|⟨a,_,_,h⟩
 ·exact h.view hlen
 ·exact h
theorem pX.isSlice (h:pX A hn e M w base v xs):∃a cap,v= .slice a xs.length cap:=by
 rcases h.h with h|⟨a,h,_⟩
 ·obtain⟨a,cap,h,_⟩:=h.isSlice;exact⟨a,cap,h⟩
 ·exact⟨a,_,h⟩
theorem pX.eL (h:pX A hn e M w base v xs) {b:Nat} {t:TypeId} {cs:Array Value} {fr:Nat×Nat} (hb:w.heap[b]? =some (.cells cs t fr)) (ht:t≠e):v.ownBlock≠some b:=fun hv=>by
 obtain⟨_,_,EN,hc⟩:=h.c b hv;rw[hb]at hc;injection hc with hc;injection hc with _ hc;exact ht hc
end
theorem Own.Sg {e:TypeId} {M M2:az} {w':World} {base:Nat} {v:Value} {xs:List α} (hA:BZ A) (h:Own A e M2 w' base v xs) (s:Step M w M2 w' aA) (hb:w.heap.size≤base) (M1:az):Own A e (ja M1 v) w' base v xs∧Step M1 w (ja M1 v) w' aA:=by
 have yq:=h.base;obtain⟨⟨C,hr,ha⟩,hm⟩:=h;refine⟨⟨⟨C,hr,ha.Jz hA⟩,fun b hb=> .inl hb⟩,fun hl b yf=>?_,s.os,s.tape,s.output,s.size,fun b yf=>⟨fun h=>h.resolve_left fun e=>by have:=(yq b e).1;omega,.inr⟩,s.same,fun b h=>h.elim⟩;rcases yf with h|h
 ·exact(yq b h).2
 ·exact jz (hl b h) s.size
theorem Own.NR {hn:0<A.n} {e:TypeId} {M M1 M2:az} {w':World} {base:Nat} {v:Value} {xs:List α} (hA:BZ A) (h:Own A e M2 w' base v xs) (s:Step M w M2 w' aA) (hb:w.heap.size≤base) (hM:Lt M1 w) (hlen:xs.length≤140737488355328):(A.sl hn).V M1 w' xs v∧Step M1 w M1 w' aA:=by
 have yq:=h.base;obtain⟨h1,h2⟩:=h.Sg hA s hb M1;exact⟨h1.sl (fun b _ HL=>⟨fun h=>HL (.inr h),rfl⟩) (fun b qh hM'=>by have h3:=(yq b qh).1;have h4:=hM b hM';omega) hlen,s.any M1⟩
theorem Rg.JB {t e:TypeId} {zv:Value} {bytes:Nat} {hn:0<A.n} {M M2:az} {w2:World} {base:Nat} {v u:Value} {xs ys:List α} (hA:BZ A) (ht:P.underlying t=some (.slice e)) (hi:TI P e zv A.n bytes) (hz:zv.cells.size=A.n)
  (hx:ev L x=some v) (hy:ev L y=some u) (hd:Nat.blt d n=true) (h:pX A hn e M w base v xs) (hu:(A.sl hn).V M2 w2 ys u) (hle:Le M2 w2 M w) (eK:0<ys.length) (hlen:xs.length+ys.length≤140737488355328)
  (hb:(xs.length+ys.length)*bytes≤140737488355328) (ik:base≤w.heap.size)
  (k:∀v' M' w',pX A hn e M' w' base v' (xs++ys)→Step M w M' w' (jb v)→Rg P r n ops rest ((d,v')::L) ds w' K):
  Rg P r n ops ({dst:=some d,op:= .call {callee:= .builtin .append,args:= #[x,y],argTypes:= #[t,t]},type:=ty,pos,after:=af,guard:=none}::rest) L ds w K:=by
 obtain⟨hh,hc⟩:=h;rcases hh with h|⟨a,hv,lr,h⟩
 ·exact .append ht hi hz hx hy hd h hu hle hlen hb ik fun v' M' w' h1 h2=>k v' M' w' (.own h1) h2
 ·have R0:ev L x=some (.slice a xs.length xs.length):=by rw[hx,hv]
  have h':(A.sl hn).V (rm M v) w xs (.slice a xs.length xs.length):=by rw[←hv];exact h
  refine .lQ ht hi hz R0 hy hd h' lr hu (aT hle (oe M v w)) eK hlen hb fun v' M' w' h1 h2=>k v' (ja M v') w' ?_ ?_
  ·obtain⟨⟨C,hr,ha⟩,hm⟩:=h1.qo ik;exact .own ⟨⟨C,hr,ha.Jz hA⟩,fun b hb=> .inl hb⟩
  ·have yq:=h1.base;refine⟨fun hl b hb=>?_,h2.os,h2.tape,h2.output,h2.size,fun b hb=>⟨fun h=>h.resolve_left fun e=>by have:=(yq b e).1;omega,.inr⟩,fun b hb _=>h2.same b hb (fun h=>h),fun b hb=>(hc b hb).2.1⟩;rcases hb with hb|hb
   ·exact(yq b hb).2
   ·exact jz (hl b hb) h2.size
theorem Rg.NS {t e:TypeId} {zv:Value} {bytes:Nat} {hn:0<A.n} {M M2:az} {a:Option Addr} {u:Value} {ys:List α} (hA:BZ A) (ht:P.underlying t=some (.slice e)) (hi:TI P e zv A.n bytes) (hz:zv.cells.size=A.n)
  (hx:ev L x=some (.slice a 0 0)) (hy:ev L y=some u) (hd:Nat.blt d n=true) (hu:(A.sl hn).V M2 w ys u) (hm:Lt M w) (hm2:Lt M2 w) (qh:ys.length≤140737488355328) (hb:ys.length*bytes≤140737488355328)
  (k:∀v' w',(A.sl hn).V M w' ys v'→Step M w M w' aA→Rg P r n ops rest ((d,v')::L) ds w' K):
  Rg P r n ops ({dst:=some d,op:= .call {callee:= .builtin .append,args:= #[x,y],argTypes:= #[t,t]},type:=ty,pos,after:=af,guard:=none}::rest) L ds w K:=by
 cases ys with
 |nil=>
  refine .ly ht hi hz hx hy hd hu (aq _ _) hm2 hb fun v' w' h1 h2=>k v' w' ?_ (h2.any M)
  obtain⟨a,cap,rfl,hc,hl,_⟩:=gH.1 h1;exact gH.2 ⟨a,cap,rfl,hc,hl,.inl rfl⟩
 |cons y0 ys=>
  refine .lQ (xs:=[]) ht hi hz hx hy hd (gH.2 ⟨a,0,rfl,by simp,by simp,.inl rfl⟩) (fun _=>rfl) hu (aq _ _) (by simp) (by simpa using qh) (by simpa using hb) fun v' M' w' h1 h2=>k v' w' ?_ (h2.any M)
  have yq:=h1.base;obtain⟨⟨C,hr,ha⟩,AB⟩:=h1;rw[ig]at hr ha;have ho:Own A e (ja M v') w' w.heap.size v' (y0::ys):=⟨⟨C,hr,ha.Jz hA⟩,fun b hb=> .inl hb⟩;exact ho.sl (fun b _ HL=>⟨fun h=>HL (.inr h),rfl⟩) (fun b hb hM=>by have h1:=(yq b hb).1;have h2:=hm b hM;omega) qh
end Go.K
namespace Go.K
section
variable {P:Program} {r:Option Nat} {n:Nat} {L:Sl} {ds:List Deferred} {w:World} {K:Kt}
def B0 (P:Program) (r:Option Nat) (n:Nat) (ops:Array Oper) (N:Nat→az) (wd:World) (K:Kt):Nat→Nat→List Oper→Sl→List Deferred→World→Prop
 |_,_,[],L,ds,w=>K .normal L ds w
 |k,c,o::rest,L,ds,w=>Rg P r n ops [o] L ds w (fun e L' j9 w'=>e= .normal∧j9=ds∧(c≠0→dR (N (k+1)) wd w')∧B0 P r n ops N wd K (k+1) (c-1) rest L' ds w')
theorem B0.nil {ops:Array Oper} {N:Nat→az} {wd:World} {k c:Nat} (h:K .normal L ds w):B0 P r n ops N wd K k c [] L ds w:=h
def nK (l:List Oper) (m j k:Nat):Bool:=(List.range k).all fun q=>match l[m+q]? with
 |some o=> !(bV o).contains j
 |none=>true
theorem D1 {l:List Oper} {m j k:Nat} (h:∀q o,q<k→l[m+q]? =some o→j∉bV o):nK l m j k=true:=by
 refine dD.2 fun q hq=> ?_
 cases ho:l[m+q]? with
 |none=>rfl
 |some o=>have:=h q o (List.mem_range.1 hq) ho;simpa[ho]using this
theorem D2 {l:List Oper} {m j k k':Nat} (h:nK l m j k=true) (hk:k'≤k):nK l m j k'=true:=
 dD.2 fun q hq=>dD.1 h q (List.mem_range.2 (by have:=List.mem_range.1 hq;omega))
structure Sh (P:Program) (r:Option Nat) (n:Nat) (l:List Oper) (m:Nat) (fl:List Nat) (c:Nat) (N:Nat→az) (K:Kt) (ds:List Deferred) (a0 am:Act) (wd:World) (D:Nat→Prop) (a:Act) (w:World) (p:Nat) (ac:Act) (Lp:Sl):Prop where
 p0:m≤p
 p1:p≤l.length
 dt:∀i,m≤i→i<l.length→(D i↔i<p)
 df:m<p→∀i,i<m→i∉fl→D i
 ag:fG n ac Lp ds
 tr:B0 P r n l.toArray N wd K (p-m) (c+m-p) (l.drop p) Lp ds w
 bE:p≤m+c→dR (N (p-m)) wd w
 da:m+c<p→∀i,i<m→D i
 wm:p=m→w=wd
 defers:a.defers=ds
 size:a.tmps.size=a0.tmps.size
 sizec:ac.tmps.size=a0.tmps.size
 done:∀t,(∀i o,i<m→l[i]? =some o→o.dst=some t→D i)→a.tmps[t]? =ac.tmps[t]?
 pend:∀i o t,i<m→l[i]? =some o→o.dst=some t→¬D i→a.tmps[t]? =a0.tmps[t]?
 cm:∀t,(∀i o,m≤i→i<p→l[i]? =some o→o.dst≠some t)→ac.tmps[t]? =am.tmps[t]?
theorem Sh.next {l:List Oper} {m:Nat} {fl:List Nat} {c:Nat} {N:Nat→az} {a0 am:Act} {eX:List Value} {wd:World} (ck:dL l 0=true) (mX:gU l m=true) (yj:gQ l m fl c=true) (o4:m<l.length) (jo:∀i,i<m→∃v,eX[i]? =some v)
  {st:Nat→Act} (il:∀j o,j<m→l[j]? =some o→∃v,eX[j]? =some v∧One P r l.toArray wd o (st j) v) (uC:∀j,j<m→QJ l m a0 eX wd (fun i=>i<j) (st j) wd) (rX:QJ l m a0 eX wd (fun i=>i<m) am wd)
  {Lm:Sl} (Ue:fG n am Lm ds) (hF:∀j o k,j∈fl→l[j]? =some o→nK l m j k=true→bJ P (N k) wd Lm o)
  {Q:Exit→Act→World→Prop} {D:Nat→Prop} {a:Act} {w:World} {j:Nat} {o:Oper} {rest:List Nat} (ho:l[j]? =some o) (kQ: ¬D j) (hp:∀k∈bV o,D k) (jM:∀i o,l[i]? =some o→D i→∀k∈bV o,D k) (hi:∃p ac Lp,Sh P r n l m fl c N K ds a0 am wd D a w p ac Lp)
  (hk:∀a' w',(∃p ac Lp,Sh P r n l m fl c N K ds a0 am wd (fun i=>i=j∨D i) a' w' p ac Lp)→wpOpsIn (FW r) 0 P l.toArray Q rest a' w'):wpOpsIn (FW r) 0 P l.toArray Q (j::rest) a w:=by
 obtain⟨p,ac,Lp,hi⟩:=hi;obtain⟨EI,sK,yC,Ed,O0⟩:=ph yj;have oK:=(au.1 ho).1;rcases cB j m with hj|hj
 ·obtain⟨v,hv,h1⟩:=il j o hj ho;obtain⟨hq,Uf⟩:=gx mX hj ho;have O1:m<p→j∈fl:=fun h=>Classical.byContradiction fun hf=>kQ (hi.df h j hj hf)
  have uy:∀t∈asks l o,a.tmps[t]? =(st j).tmps[t]? :=fun t ht=>by
   by_cases hx:∃i o',i<m∧l[i]? =some o'∧o'.dst=some t
   ·obtain⟨i,o',gP,eA,hd⟩:=hx;obtain⟨v',mW⟩:=jo i gP;rcases Uf t ht i o' gP eA hd with h|h|h
    ·have uB:=hp i h;have fZ:=b4 ck j o ho i h;rw[hi.done t (fun k ok ri eB qv=>by rw[dw ck eB eA qv hd];exact uB),hi.cm t (fun k ok og yx eB qv=>by have:=dw ck eB eA qv hd;omega),rX.done i o' v' t gP eA mW gP hd,(uC j hj).done i o' v' t gP eA mW (by omega) hd]
    ·subst h;rw[hi.pend i o' t gP eA hd kQ,(uC i hj).base t (fun k ok ri eB qv uK=>by have:=dw ck eB eA uK hd;omega)]
    ·have fZ:=b4 ck i o' eA j h;rw[hi.pend i o' t gP eA hd (fun uB=>kQ (jM i o' eA uB j h)),(uC j hj).base t (fun k ok ri eB qv uK=>by have:=dw ck eB eA uK hd;omega)]
   ·have iK:∀k ok,k<m→l[k]? =some ok→ok.dst≠some t:=fun k ok ri eB qv=>hx ⟨k,ok,ri,eB,qv⟩
    rw[hi.done t (fun k ok ri eB qv=>absurd qv (iK k ok ri eB)),hi.cm t (fun k ok og yx eB qv=>by
     rcases O0 j o hj (O1 (by omega)) ho t ht k ok eB qv with h|⟨_,h⟩
     ·have:=b4 ck j o ho k h;omega
     ·exact kQ (jM k ok eB ((hi.dt k og (au.1 eB).1).2 yx) j h)),rX.base t (fun k ok ri eB _=>iK k ok ri eB),(uC j hj).base t (fun k ok ri eB _=>iK k ok ri eB)]
  obtain⟨yu,uz⟩:=iq uy
  have h2:One P r l.toArray w o a v:=by
   rcases dO hi.p0 with K7|K7
   ·have JT:=hi.wm K7.symm;unfold One at h1 ⊢;rw[uz,fW hq yu,JT];exact h1
   ·have O2:=O1 K7
    have K8:∀t∈asks l o,am.tmps[t]? =(st j).tmps[t]? :=fun t ht=>rX.agree ck jo (uC j hj) fun i o' gP eA hd=>by
     rcases O0 j o hj O2 ho t ht i o' eA hd with h|⟨h,_⟩
     ·have:=b4 ck j o ho i h;exact⟨fun _=>by omega,fun _=>gP⟩
     ·omega
    obtain⟨EJ,_⟩:=iq K8;unfold One at h1 ⊢;rw[uz]
    split
    ·rename_i hw
     rw[if_pos hw]at h1;rw[←fW hq EJ]at h1;rw[fW hq yu,←fW hq EJ];exact hF j o (p-m) O2 ho (D1 fun q oq hq Ee Ui=>kQ (jM (m+q) oq Ee ((hi.dt (m+q) (by omega) (au.1 Ee).1).2 (by omega)) j Ui)) am.eval (fun x u hx=>Ue.eval hx) v w (hi.bE (Nat.le_of_not_lt fun dy=>kQ (hi.da dy j hj))) h1
    ·rename_i hw
     rw[if_neg hw]at h1;exact h1
  refine h2.run (by simpa using ho) hq (hk _ _ ⟨p,ac,Lp,hi.p0,hi.p1,fun i h3 h4=>?_,fun h i h3 h4=> .inr (hi.df h i h3 h4),hi.ag,hi.tr,hi.bE,fun h i h3=> .inr (hi.da h i h3),hi.wm,by rw[put_defers];exact hi.defers,by rw[iL];exact hi.size,hi.sizec,fun t ht=>?_,fun i o' t gP eA hd C5=>?_,hi.cm⟩)
  ·rw[←hi.dt i h3 h4];exact⟨fun h=>h.resolve_left (by omega),.inr⟩
  ·rw[ef];by_cases e:o.dst=some t
   ·rw[if_pos e,hi.cm t (fun k ok og yx eB qv=>by have:=dw ck eB ho qv e;omega),rX.done j o v t hj ho hv hj e];exact lu hi.size
   ·rw[if_neg e];exact hi.done t fun i o' gP eA hd=>(ht i o' gP eA hd).resolve_left (fun h=>by subst h;rw[ho]at eA;cases eA;exact e hd)
  ·rw[ef,if_neg (fun e=>C5 (.inl (dw ck eA ho hd e)))];exact hi.pend i o' t gP eA hd (fun h=>C5 (.inr h))
 ·have O3:j=p:=by
   have h1:p≤j:=by
    rcases cB j p with h|h
    ·exact absurd ((hi.dt j hj oK).2 h) kQ
    ·exact h
   rcases cB m j with h|h
   ·have h2:=hp _ (gY sK (j:=j) (by omega) ho);have:=(hi.dt (j-1) (by omega) (by omega)).1 h2;omega
   ·have:=hi.p0;omega
  subst O3;obtain⟨K9,C6⟩:=Ed j o hj ho
  have kK:∀i,i<m→i∉fl→D i:=fun i gP La=>by
   rcases dO hi.p0 with h|h
   ·rw[h,ho]at yC;exact jq (D:=D) jM j (bV o) yC hp i (by omega) La
   ·exact hi.df h i gP La
  have uy:∀t∈asks l o,a.tmps[t]? =ac.tmps[t]? :=fun t ht=>hi.done t fun i o' gP eA hd=>hp i (C6 t ht i o' gP eA hd)
  obtain⟨yu,uz⟩:=iq uy
  have EK:m+c<j+1→∀i,i<m→D i:=fun dy i gP=>by
   rcases cB (m+c) j with h|h
   ·exact hi.da h i gP
   ·have qg:j=m+c:=by omega
    rcases EI with h5|h5
    ·omega
    ·refine kg (D:=D) jM m _ h5 (fun k hk=>?_) i gP;simp only[nP,List.mem_flatMap,List.mem_range'_1]at hk;obtain⟨q,⟨Ee,SV⟩,AI⟩:=hk;rcases dO (show q≤j by omega)with e|e
     ·rw[e,ho]at AI;exact hp k AI
     ·have O4:=(hi.dt q Ee (by omega)).2 e
      cases Lb:l[q]? with
      |none=>rw[Lb]at AI;cases AI
      |some oq=>rw[Lb]at AI;exact jM q oq Lb O4 k AI
  have qf:=hi.tr;rw[de oK,(au.1 ho).2]at qf;have h1:=Rg.run qf ac hi.ag;refine sM (by simpa using ho) K9 yu uz (by rw[hi.defers,hi.ag.defers]) h1 (fun e a w ⟨_,_,_,he,_⟩=>he) (fun v w' ⟨L',j9,hA,_,AH,OW,EL⟩=>?_) (fun d w' ⟨L',j9,hA,_,AH,_⟩=>?_)
  ·rw[AH]at hA;refine hk _ _ ⟨j+1,ac.put o.dst v,L',by omega,by omega,fun i h3 h4=>?_,fun _ i h3 h4=> .inr (kK i h3 h4),hA,by rw[show c+m-(j+1)=c+m-j-1 from by omega,show j+1-m=j-m+1 from by omega];exact EL,fun h=>by rw[show j+1-m=j-m+1 from by omega];exact OW (by omega),fun h i gP=> .inr (EK h i gP),fun h=>by omega,by rw[put_defers];exact hi.defers,by rw[iL];exact hi.size,by rw[iL];exact hi.sizec,fun t ht=>?_,fun i o' t gP eA hd C5=>?_,fun t ht=>?_⟩
   ·constructor
    ·rintro(h|h)
     ·omega
     ·have:=(hi.dt i h3 h4).1 h;omega
    ·intro h;rcases dO (show i≤j by omega)with h5|h5
     ·exact .inl h5
     ·exact .inr ((hi.dt i h3 h4).2 h5)
   ·rw[ef,ef]
    split
    ·exact lu (hi.size.trans hi.sizec.symm)
    ·exact hi.done t fun i o' gP eA hd=>(ht i o' gP eA hd).resolve_left (by omega)
   ·rw[ef,if_neg (fun e=>by have:=dw ck eA ho hd e;omega)];exact hi.pend i o' t gP eA hd (fun h=>C5 (.inr h))
   ·rw[ef,if_neg (ht j o hj (by omega) ho)];exact hi.cm t fun i o' h3 h4 h5=>ht i o' h3 (by omega) h5
  ·have h3:=hA.defers;rw[put_defers,AH]at h3;have h4:=congrArg List.length h3;rw[hi.ag.defers]at h4;simp at h4
theorem Ht {l:List Oper} {wd:World} (m:Nat) (fl:List Nat) (c:Nat) (N:Nat→az) (o4:Nat.blt m l.length=true) (ck:dL l 0=true) (mX:gU l m=true) (yj:gQ l m fl c=true)
  (h:kR P r n l.toArray (l.take m) L ds wd (fun L'=>(∀j o k,j∈fl→l[j]? =some o→nK l m j k=true→bJ P (N k) wd L' o)∧B0 P r n l.toArray N wd K 0 c (l.drop m) L' ds wd)):fX P r n l L ds wd K:=by
 intro a ha;have ym:m<l.length:=by simpa[Nat.blt_eq]using o4
 have fL:∀j,j<m→(l.take m)[j]? =l[j]? :=fun j hj=>by rw[dr,if_pos hj]
 obtain⟨am,Lm,vs,qf,hA,hF,hT⟩:=h.trace (fun o ho=>by
  obtain⟨j,hj⟩:=bN.1 ho
  have uJ:j<m:=by
   have:=(au.1 hj).1;rw[bG]at this;omega
  exact(gx mX uJ (by rw[←fL j uJ];exact hj)).1) ha
 obtain⟨st,h0,hl,il⟩:=qf.sL;have hlen:(l.take m).length=m:=by rw[bG];omega
 rw[hlen]at hl;have nX:∀j o,j<m→l[j]? =some o→∃v,vs[j]? =some v∧One P r l.toArray wd o (st j) v∧st (j+1)=(st j).put o.dst v:=fun j o hj ho=>il j o (by rw[fL j hj];exact ho)
 have jo:∀i,i<m→∃v,vs[i]? =some v:=fun i hi=>by
  obtain⟨v,hv,_⟩:=nX i l[i] hi (aL (by omega));exact⟨v,hv⟩
 have uC:=j1 ck h0 nX;have rX:=uC m (a8 _) (by omega);rw[hl]at rX
 refine⟨fun D a' w'=>∃p ac Lp,Sh P r n l m fl c N K ds a am wd D a' w' p ac Lp,fun D D' a' w' ⟨p,ac,Lp,hi⟩ hD=>⟨p,ac,Lp,hi.p0,hi.p1,fun i h3 h4=>(hD i h4).trans (hi.dt i h3 h4),fun h i h3 h4=>(hD i (by omega)).2 (hi.df h i h3 h4),hi.ag,hi.tr,hi.bE,fun h i h3=>(hD i (by omega)).2 (hi.da h i h3),hi.wm,hi.defers,hi.size,hi.sizec,fun t ht=>hi.done t fun i o h3 h4 h5=>(hD i (by omega)).1 (ht i o h3 h4 h5),fun i o t h3 h4 h5 h6=>hi.pend i o t h3 h4 h5 (fun h=>h6 ((hD i (by omega)).2 h)),hi.cm⟩,
  fun Q D a' w' j o rest hj ho kQ hp jM hi hk=>Sh.next ck mX yj ym jo (fun j o hj ho=>by obtain⟨v,h1,h2,_⟩:=nX j o hj ho;exact⟨v,h1,h2⟩) (fun j hj=>uC j (by omega) (by omega)) rX hA hF ho kQ hp jM hi hk,fun a' w' hJ=>?_,⟨m,am,Lm,a8 _,by omega,fun i h3 h4=>?_,fun h=>by omega,hA,by rw[Nat.add_sub_cancel,Nat.sub_self];exact hT,fun _=>jw _ _,fun h=>by omega,fun _=>rfl,ha.defers,rfl,rX.size,fun t ht=>?_,fun i o t _ _ _ _=>rfl,fun t _=>rfl⟩⟩
 ·obtain⟨p,ac,Lp,hi⟩:=hJ
  have xd:p=l.length:=by
   rcases cB p l.length with h3|h3
   ·have:=(hi.dt p hi.p0 h3).1 h3;omega
   ·have:=hi.p1;omega
  have qf:=hi.tr;rw[xd,dP (a8 _)]at qf;refine⟨Lp,ds,⟨?_,hi.defers,fun t v ht=>?_⟩,qf⟩
  ·rw[hi.size];exact ha.size
  ·rw[hi.done t fun i o h3 h4 _=>by omega];exact hi.ag.at_ t v ht
 ·exact⟨False.elim,fun h=>by omega⟩
 ·rw[rX.base t fun i o h3 h4 _ h5=>(ht i o h3 h4 h5)]
theorem T.NT {id:Nat} {l l':List Oper} (π:List Nat) (m:Nat) (fl:List Nat) (c:Nat) (N:Nat→az) (hm:P.follows .mixedOrders=true) (AK:uL π l=l') (mZ:dL l 0=true) (hπ:jD π l.length=true) (o4:Nat.blt m l'.length=true) (ck:dL l' 0=true) (mX:gU l' m=true) (yj:gQ l' m fl c=true)
  (h:∀wD,(∀M,Step M w M wD aA)→kR P r n l'.toArray (l'.take m) L ds wD (fun L'=>(∀j o k,j∈fl→l'[j]? =some o→nK l' m j k=true→bJ P (N k) wD L' o)∧B0 P r n l'.toArray N wD K 0 c (l'.drop m) L' ds wD)):T P r n (.region id l.toArray true) L ds w K:=by
 subst AK;exact fX.t hm mZ fun wD hD=> .perm π hπ mZ (Ht m fl c N o4 ck mX yj (h wD hD))
theorem dR.more {N N':az} {wd w:World} (h:dR N wd w) (hN:∀b,N b→N' b):dR N' wd w:=⟨h.1,fun b hb hn=>h.2 b hb (fun h2=>hn (hN b h2))⟩
def pY (P:Program) (N:Nat→az) (wd:World) (L:Sl) (l:List Oper) (m:Nat):List Nat→Prop
 |[]=>True
 |j::js=>(match l[j]? with|some o=>∀k,nK l m j k=true→bJ P (N k) wd L o|none=>True)∧pY P N wd L l m js
theorem pY.all {N:Nat→az} {wd:World} {l:List Oper} {m:Nat}:∀{fl:List Nat},pY P N wd L l m fl→∀j o k,j∈fl→l[j]? =some o→nK l m j k=true→bJ P (N k) wd L o
 |[],_,j,o,_,hj,_=>absurd hj (List.not_mem_nil)
 |i::fl,h,j,o,k,hj,ho=>by
  rcases dm.1 hj with e|hj
  ·have h1:=h.1;rw[←e,ho]at h1;exact h1 k
  ·exact pY.all h.2 j o k hj ho
end
end Go.K
namespace Go.K
open Go.Proofs
namespace TKQueA
theorem qS:TI Tryz.prog 51 (.agg #[(.string ⟨#[]⟩),(.string ⟨#[]⟩),(.int .i64 0)]) 3 40:=by unfold TI;kernel_rfl
theorem JC:TI Tryz.prog 75 (.slice none 0 0) 1 24:=by unfold TI;kernel_rfl
theorem YY:TI Tryz.prog 144 (.agg #[(.slice none 0 0),(.int .i64 0)]) 2 32:=by unfold TI;kernel_rfl
theorem YZ:placesOf Tryz.prog 144=[(0,1),(1,1)].map some:=by kernel_rfl
end TKQueA
open TKQueA
set_option maxRecDepth 10000
theorem Hu:BZ RT.er:=fun _ _ _ _ _ _ h=>h
abbrev Si (e:TypeId) (M:az) (w:World) (base:Nat) (v:Value) (xs:List Er):Prop:=pX RT.er (by decide) e M w base v xs
structure Qu (M:az) (w:World) (base bq:Nat) (xs:List Er) (last:Int):Prop where
 c:∃vl,w.heap[bq]? =some (.cells #[vl,.int .i64 last] 144 (0,0))∧Si 51 M w base vl xs
 m:M bq
 z:base≤bq
 r: -9223372036854775808≤last∧last≤9223372036854775807
def qN (M:az) (w:World) (base:Nat):az:=fun b=>M b∧base≤b∧∃cs,w.heap[b]? =some (.cells cs 51 (0,0))∨w.heap[b]? =some (.cells cs 144 (0,0))
theorem Qu.step {M M' N:az} {w w':World} {base bq:Nat} {xs:List Er} {last:Int} (h:Qu M w base bq xs last) (s:Step M w M' w' N) (hN:∀b,N b→∀cs,w.heap[b]? ≠some (.cells cs 51 (0,0))∧w.heap[b]? ≠some (.cells cs 144 (0,0))):Qu M' w' base bq xs last:=by
 obtain⟨⟨vl,g,hr⟩,hm,hz,hl⟩:=h;refine⟨⟨vl,s.bE g (fun hn=>(hN _ hn _).2 g),hr.step s (fun b hb hn=>?_)⟩,(s.mem _ (ak g)).2 hm,hz,hl⟩;obtain⟨_,_,cs,hc⟩:=hr.c b hb;exact(hN b hn cs).1 hc
theorem Qu.bg {M M':az} {w w':World} {base bq:Nat} {xs:List Er} {last:Int} (h:Qu M w base bq xs last) (s:Step M w M' w' aA):Qu M' w' base bq xs last:=h.step s (fun _ h=>h.elim)
theorem D3 {M:az} (w0:World) (hM:Lt M w0):
  Spec Tryz.prog 32 #[] w0 (fun v w=>∃bq,v= .pointer (some ⟨bq,0,none⟩)∧w0.heap.size≤bq∧Step M w0 (ins M bq) w aA∧Qu (ins M bq) w w0.heap.size bq [] (-1)):=by
 refine aW (args:=[]) (fn:=Tryz.f32) Tryz.func32 rfl (n:=3) Tryz.ntmps32 (aj (ah (ai rfl rfl (ad (aj (ah (dX (places:=[(0,1),(1,1)]) fU YY YZ rfl ⟨_,_,rfl,rfl,rfl⟩ (out:=[.slice none 0 0,_]) ⟨1,[_],rfl,rfl,by simp[Value.cells],rfl⟩ ?_)))))));refine mH M rfl rfl (fun bq w1 h1 H9 g1 s1=>?_);refine ai rfl rfl (ad (aH ?_));exact aP rfl rfl ⟨bq,rfl,h1,s1,⟨⟨_,g1,.own (eo _ _ _ _ _)⟩,.inl rfl,h1,by decide⟩⟩
theorem D4 {M:az} {base bq:Nat} {xs:List Er} {last:Int} (w0:World) (hM:Lt M w0) (hq:Qu M w0 base bq xs last) (hl:xs.length≤1000000) {e:Er} {ve:Value} (he:RT.er.V M w0 e ve) (hb:base≤w0.heap.size):
  Spec Tryz.prog 33 #[.pointer (some ⟨bq,0,none⟩),ve] w0 (fun v w=>v= .int .i64 (if e.2≤last then 12 else 0)∧∃M',Qu M' w base bq (if e.2≤last then xs else xs++[e]) (if e.2≤last then last else e.2)∧Step M w0 M' w (qN M w0 base)):=by
 have NU:=hq;obtain⟨⟨vl,g,hr⟩,n0,hz,Y0⟩:=hq;obtain⟨rfl,vv,Y1⟩:=BR he;have hgt:=ak g;have TL:=id g;have Ea:vl.ownBlock≠some bq:=hr.eL g (by decide);have TM:∀b,vl.ownBlock=some b→b<w0.heap.size:=fun b hb=>by obtain⟨_,_,cs,hc⟩:=hr.c _ hb;exact ak hc
 refine aW (args:=[_,_]) (fn:=Tryz.f33) Tryz.func33 rfl (n:=27) Tryz.ntmps33 ?_;have S:Step M w0 M w0 aA:=(an _ _).ca (fun _ h=>h.elim) (fun _ h=>h.elim);refine aj (ah ?_);refine mH M rfl rfl (fun rU He RN RO gR o0=>?_);obtain⟨nG,nH⟩:∃M',M'=ins M rU:=⟨_,rfl⟩;rw[←nH]at o0;have ie:nG rU:=by rw[nH];exact .inl rfl
 try simp only[Value.cells]at gR
 have:=ak g;replace n0:=(o0.mem _ this).2 n0;replace g:=o0.aG g;replace he:=he.le o0.le;replace hM:=o0.lt hM;have:=S.size;replace S:=S.ax o0;refine ai rfl rfl (ad (aj (aj ?_)));apply T.ki mixed rfl rfl;intro Cn Dp;have hY:=Dp nG;have:=ak g;replace n0:=(hY.mem _ this).2 n0;replace g:=hY.aG g;have:=ak gR;replace ie:=(hY.mem _ this).2 ie;replace gR:=hY.aG gR;replace he:=he.le hY.le;replace hM:=hY.lt hM;have:=S.size;replace S:=S.ax hY;refine aS (o':=2) dG rfl rfl I3 (by decide) rfl rfl ?_;refine ad ⟨rfl,rfl,rfl,?_⟩;refine aE ar rfl rfl rfl (by first|assumption|exact bS hY (by assumption)) rfl ?_;refine ad ⟨rfl,rfl,rfl,?_⟩;refine ae rfl rfl ?_;refine ad ⟨rfl,rfl,rfl,?_⟩;refine aR rfl ⟨_,rfl⟩ rfl ?_;refine ad ⟨rfl,rfl,rfl,?_⟩;refine aS (o':=1) fU rfl rfl I3 (by decide) rfl rfl ?_;refine ad ⟨rfl,rfl,rfl,?_⟩;refine aE ar rfl rfl rfl (by first|assumption|exact bS hY (by assumption)) rfl ?_;refine ad ⟨rfl,rfl,rfl,?_⟩;refine eM rfl rfl rfl ?_;refine ad ⟨rfl,rfl,rfl,?_⟩;refine fE ?_;refine bF rfl (fun c1=>?_) (fun c1=>?_)
 ·refine aj (ah (ai rfl rfl (ad (aH ?_))));have NV:e.2≤last:=by simpa using c1
  exact aP rfl rfl ⟨by rw[if_pos NV],_,by rw[if_pos NV,if_pos NV];exact NU.bg S,S.ca (fun _ h=>h.elim) (fun _ h=>h.1)⟩
 ·refine aU (aj ?_);apply T.NT [0,1,2,3,4,5,6,9,10,7,8,11,12,13,14,15,16] 9 [0,1,2,3,4,5,7,8] 5 (fun k=>match k with|0=>aA|1=>aA|_=>fun b=>b=bq∨jb vl b) mixed
  ·simp+decide only[uL,qw,iE,List.map_nil,uv,uw,List.map_toArray,fB,mR,List.idxOf_cons,cond_true,cond_false,Nat.reduceBEq,Nat.reduceAdd,beq_self_eq_true];rfl
  ·rfl
  ·rfl
  ·rfl
  ·rfl
  ·rfl
  ·rfl
  intro LM LN;have kI:=LN nG;have:=ak g;replace n0:=(kI.mem _ this).2 n0;replace g:=kI.aG g;have:=ak gR;replace ie:=(kI.mem _ this).2 ie;replace gR:=kI.aG gR;replace he:=he.le kI.le;replace hM:=kI.lt hM;have:=S.size;replace S:=S.ax kI;refine ae rfl rfl ?_;refine ad ⟨rfl,rfl,rfl,?_⟩;refine ae rfl rfl ?_;refine ad ⟨rfl,rfl,rfl,?_⟩;refine ae rfl rfl ?_;refine ad ⟨rfl,rfl,rfl,?_⟩;refine aR rfl ⟨_,rfl⟩ rfl ?_;refine ad ⟨rfl,rfl,rfl,?_⟩;refine aS (o':=0) fU rfl rfl JC (by decide) rfl rfl ?_;refine ad ⟨rfl,rfl,rfl,?_⟩;refine aE dH rfl rfl rfl g rfl (bp (v':=vl) rfl ?_);refine ad ⟨rfl,rfl,rfl,?_⟩;refine gG (vs:=[.string ⟨e.1.1.toArray⟩,.string ⟨e.1.2.toArray⟩,.int .i64 e.2]) dG rfl qS rfl rfl rfl gR ?_;refine ad ⟨rfl,rfl,rfl,?_⟩;refine aS (o':=2) dG rfl rfl I3 (by decide) rfl rfl ?_;refine ad ⟨rfl,rfl,rfl,?_⟩;refine aE ar rfl rfl rfl (by first|assumption|exact bS kI (by assumption)) rfl ?_;refine ad ⟨rfl,rfl,rfl,?_⟩;refine fE ?_
  refine⟨pY.all ⟨fun _ _=>gr,⟨fun _ _=>gr,⟨fun _ _=>gr,⟨fun _ _=>bJ.nilCheck rfl,⟨fun _ _=>gq fU rfl JC (by decide),⟨fun k hk=>by
   match k,hk with
   |0,_=>exact ep rfl g (fun h=>h)
   |1,_=>exact ep rfl g (fun h=>h)
   |k+2,hk=>exact absurd (D2 hk (show 2≤k+2 by omega)) (by decide),⟨fun _ _=>gq dG rfl I3 (by decide),⟨fun k hk=>ep rfl gR (fun h=>by
   match k,h with
   |0,h=>exact h
   |1,h=>exact h
   |k+2,h=>
    rcases h with h|h
    ·omega
    ·have:=TM _ h;omega),trivial⟩⟩⟩⟩⟩⟩⟩⟩,?_⟩
  have kp:=jw aA LM;refine eW (A:=RT.er) (hn:=by decide) (M:=nG) dH qS (by decide) rfl rfl hM he (.inl rfl) (fun u9 w9 Mj s9=>?_);have:=ak g;replace n0:=(s9.mem _ this).2 n0;replace g:=s9.aG g;have:=ak gR;replace ie:=(s9.mem _ this).2 ie;replace gR:=s9.aG gR;replace he:=he.le s9.le;replace hM:=s9.lt hM;have:=S.size;replace S:=S.ax s9;refine(fun(kp:dR _ _ _)=>ad ⟨rfl,rfl,fun _=>kp,?_⟩) (by first|exact kp|exact kp.qu (by assumption)|exact kp.goN (by assumption)|exact kp.go (by assumption) (fun _ _ h=>by first|exact h|exact h.elim));refine Rg.JB (M:=nG) (base:=base) Hu dH qS rfl rfl rfl rfl (hr.step S (fun _ _ h=>h.elim)) Mj (aq _ _) (by simp) (by simp;omega) (by simp;omega) (by have:=S.size;omega) (fun v10 Y2 VK JD qi=>?_);have g10:=qi.bE g Ea;have m10:=(qi.mem _ (ak g)).2 n0;refine(fun(kp:dR _ _ _)=>ad ⟨rfl,rfl,fun _=>kp,?_⟩) ((kp.more (fun b h=>h.elim)).go qi (fun b hb h=> .inr h));refine aR rfl ⟨_,rfl⟩ rfl ?_;refine(fun(kp:dR _ _ _)=>ad ⟨rfl,rfl,fun _=>kp,?_⟩) (by first|exact kp|exact kp.qu (by assumption)|exact kp.goN (by assumption)|exact kp.go (by assumption) (fun _ _ h=>by first|exact h|exact h.elim));refine aS (o':=0) fU rfl rfl JC (by decide) rfl rfl ?_;refine(fun(kp:dR _ _ _)=>ad ⟨rfl,rfl,fun _=>kp,?_⟩) (by first|exact kp|exact kp.qu (by assumption)|exact kp.goN (by assumption)|exact kp.go (by assumption) (fun _ _ h=>by first|exact h|exact h.elim));refine bP (M:=Y2) JC rfl rfl g10 rfl (by obtain⟨_,_,he⟩:=JD.isSlice;rw[he];rfl) m10 (fun Om g13 rS=>?_);refine(fun(kp:dR _ _ _)=>ad ⟨rfl,rfl,fun _=>kp,?_⟩) (kp.go rS (fun b hb h=> .inl h));refine aR rfl ⟨_,rfl⟩ rfl ?_;refine ad ⟨rfl,rfl,fun h=>absurd rfl h,?_⟩;refine aS (o':=1) fU rfl rfl I3 (by decide) rfl rfl ?_;refine ad ⟨rfl,rfl,fun h=>absurd rfl h,?_⟩;refine bP (M:=Y2) I3 rfl rfl g13 rfl rfl m10 (fun Ji g16 yn=>?_)
  refine ad ⟨rfl,rfl,fun h=>absurd rfl h,?_⟩;refine B0.nil (aj (ah (ai rfl rfl (ad (aH ?_)))));have NV: ¬e.2≤last:=by simpa using c1
  refine aP rfl rfl ⟨by rw[if_neg NV],Y2,?_,(((S.ca (fun _ h=>h.elim) (fun _ h=>h.1)).trans qi (fun b hb h=>?_)).trans rS (fun b hb h=>?_)).trans yn (fun b hb h=>?_)⟩
  ·rw[if_neg NV,if_neg NV];have Y3:=(JD.step rS (fun b hb (h:b=bq)=>JD.eL g10 (by decide) (h▸hb))).step yn (fun b hb (h:b=bq)=>JD.eL g10 (by decide) (h▸hb));exact⟨⟨_,g16,Y3⟩,m10,hz,Y1⟩
  ·obtain⟨h1,h2,cs,h3⟩:=hr.c b h;exact⟨h2,h1,cs,.inl h3⟩
  ·have h:b=bq:=h;subst h;exact⟨NU.m,hz,_,.inr TL⟩
  ·have h:b=bq:=h;subst h;exact⟨NU.m,hz,_,.inr TL⟩
end Go.K
namespace Go.K
open Go.Proofs
namespace TKQueC
theorem qS:TI Tryz.prog 51 (.agg #[(.string ⟨#[]⟩),(.string ⟨#[]⟩),(.int .i64 0)]) 3 40:=by unfold TI;kernel_rfl
end TKQueC
open TKQueC
set_option maxRecDepth 10000
end Go.K
namespace Go.K
open Go.Proofs
namespace TKTak15
theorem qS:TI Tryz.prog 51 (.agg #[(.string ⟨#[]⟩),(.string ⟨#[]⟩),(.int .i64 0)]) 3 40:=by unfold TI;kernel_rfl
theorem OG:placesOf Tryz.prog 51=[(0,2),(2,1)].map some:=by kernel_rfl
end TKTak15
open TKTak15
set_option maxRecDepth 10000
end Go.K
namespace Go.K
open Go.Proofs
namespace TKSet
theorem vw:TI Tryz.prog 159 (.slice none 0 0) 1 24:=by unfold TI;kernel_rfl
theorem Y4:TI Tryz.prog 161 (.agg #[(.int .i64 0),(.slice none 0 0)]) 2 32:=by unfold TI;kernel_rfl
theorem o2:TI Tryz.prog 165 (.int .u64 0) 1 8:=by unfold TI;kernel_rfl
theorem Y5:placesOf Tryz.prog 161=[(0,1),(1,1)].map some:=by kernel_rfl
theorem Y6:Enters Tryz.prog 145:=enters Tryz.func145 rfl (by decide)
theorem Sj:Enters Tryz.prog 188:=enters Tryz.func188 rfl (by decide)
theorem Y7:Enters Tryz.prog 189:=enters Tryz.func189 rfl (by decide)
end TKSet
open TKSet
set_option maxRecDepth 10000
theorem vz {w0:World} {k m x:Nat} (Hv:∃e fr,w0.heap[0]? =some (.cells (E0.map fun(k:Nat)=>Value.int .u8 (k:Int)).toArray e fr)) (hx:x=2^k*(2*m+1)) (hl:x<2^64):
  Spec Tryz.prog 190 #[.int .u64 x] w0 (fun v' w'=>v'= .int .i64 k∧w0=w'):=by
 obtain⟨et,ft,Hv⟩:=Hv;have hp:=Nat.two_pow_pos k;have wU:0<x:=by rw[hx];exact Nat.mul_pos hp (by omega)
 have hkx:2^k≤x:=by rw[hx];exact Nat.le_mul_of_pos_right _ (by omega)
 have hk:k<64:=by
  rcases cB k 64 with h2|h2
  ·exact h2
  ·have:=kX (n:=2) (by decide) h2;omega
 obtain⟨hd1,hd2⟩:=Lr k hk;have lv:((E0.map fun(k:Nat)=>Value.int .u8 (k:Int)).toArray)[(2^k*285870213051353865)%2^64/2^58]? =some (.int .u8 (k:Int)):=by rw[j5,eE,hd2];rfl
 refine aW (args:=[_]) (fn:=Tryz.f190) Tryz.func190 rfl (n:=14) Tryz.ntmps190 (aj (ah (ai rfl rfl (ad (aj (aj (ah (ae rfl rfl (Rg.Ay rfl rfl rfl (ad (T.wT rfl ((by omega)) ?_)))))))))));refine aU (aj (ah (ae rfl rfl (ae rfl rfl (Rg.Un rfl rfl (bp (v':= .int .u64 ((2^64-x:Nat):Int)) (by rw[show(0:Int)-(x:Int)=((2^64-x:Nat):Int)-18446744073709551616 from by omega];simp[IntKind.wrap,IntKind.bits,IntKind.signed];omega) (Rg.and rfl rfl rfl (bp (v':= .int .u64 ((2^k:Nat):Int)) (by rw[AP x (2^64-x) hl (by omega),hx,Ig (by omega)]) (Rg.TT rfl rfl rfl (bp (v':= .int .u64 (((2^k*285870213051353865)%2^64:Nat):Int)) (congrArg _ (by rw[show((2^k:Nat):Int)*285870213051353865=((2^k*285870213051353865:Nat):Int)from by rw[Int.natCast_mul];rfl];exact xk _)) (Rg.shr rfl rfl rfl (by decide) ?_)))))))))));refine bp (v':= .int .u64 (((2^k*285870213051353865)%2^64/2^58:Nat):Int)) (congrArg _ (Ls _ 58 (by decide))) (Rg.Lq (len:=64) Tryz.underlying276 I5 rfl rfl rfl (by omega) (aE (v:= .int .u8 (k:Int)) bZ rfl rfl rfl Hv (by rw[aC];exact lv) (Rg.qm bZ ar rfl rfl (by omega) (ai rfl rfl (ad (aH ?_))))));exact aP rfl rfl ⟨rfl,rfl⟩
theorem CS {M:az} {w0:World} {n:Nat} {ws:List Nat} {bs bw:Nat} (h:fR 161 165 n ws M w0 bs bw) {i:Int}:
  Spec Tryz.prog 188 #[.pointer (some ⟨bs,0,none⟩),.int .i64 i] w0 (fun v' w'=>v'= .bool (decide (0≤i∧i<n))∧w0=w'):=by
 have hS:=h.s;have hW:=h.w;have hlen:=h.len;have eB:=h.ok;have JL:=h.nn;refine aW (args:=[_,_]) (fn:=Tryz.f188) Tryz.func188 rfl (n:=15) Tryz.ntmps188 (aj (ah (ai rfl rfl (ad (aj (ah (ae rfl rfl (dA rfl rfl rfl (ae rfl rfl ?_)))))))));refine aI (g:=7) rfl (fun fM=>?_) (fun fM=>?_)
 ·refine al rfl rfl (ae rfl rfl (al rfl rfl (ae rfl rfl (al rfl rfl (aR rfl ⟨_,rfl⟩ rfl (al rfl rfl (aS eu rfl rfl I3 (by decide) rfl rfl (al rfl rfl (aE ar rfl rfl rfl (by assumption) rfl (al rfl rfl (cf rfl rfl rfl ?_)))))))))));refine aQ rfl rfl rfl (ai rfl rfl (ad (aH ?_)))
  first
  |exact aP rfl rfl ⟨congrArg Value.bool (decide_eq_decide.2 (by omega)),rfl⟩
  |exact aP rfl rfl ⟨congrArg Value.bool (eP (decide_eq_false (by omega))),rfl⟩
 ·refine ao rfl rfl rfl rfl (ao rfl rfl rfl rfl (ao rfl rfl rfl rfl (ao rfl rfl rfl rfl (ao rfl rfl rfl rfl (ao rfl rfl rfl rfl (ay rfl rfl rfl (ai rfl rfl (ad (aH ?_)))))))))
  first
  |exact aP rfl rfl ⟨congrArg Value.bool (decide_eq_decide.2 (by omega)),rfl⟩
  |exact aP rfl rfl ⟨congrArg Value.bool (eP (decide_eq_false (by omega))),rfl⟩
theorem Hw {M:az} {w0:World} {n:Nat} {ws:List Nat} {bs bw:Nat} (h:fR 161 165 n ws M w0 bs bw) {i:Int}:
  Spec Tryz.prog 189 #[.pointer (some ⟨bs,0,none⟩),.int .i64 i] w0 (fun v' w'=>v'= .bool (JY n ws i)∧w0=w'):=by
 have hS:=h.s;have hW:=h.w;have hlen:=h.len;have eB:=h.ok;have JL:=h.nn;refine aW (args:=[_,_]) (fn:=Tryz.f189) Tryz.func189 rfl (n:=23) Tryz.ntmps189 (aj (ah (ai rfl rfl (ad (aj (ah (ae rfl rfl (ae rfl rfl ?_))))))));refine aM rfl rfl Sj (CS h) (fun r wc h=>?_);obtain⟨rfl,rfl⟩:=h;refine ae rfl rfl ?_;refine aI (g:=8) rfl (fun gm=>?_) (fun gm=>?_)
 ·obtain⟨j,rfl⟩:∃j:Nat,i=j:=⟨i.toNat,by omega⟩;refine al rfl rfl (ae rfl rfl (al rfl rfl (aR rfl ⟨_,rfl⟩ rfl (al rfl rfl (aS eu rfl rfl vw (by decide) rfl rfl (al rfl rfl (aE cH rfl rfl rfl (by assumption) rfl (al rfl rfl (ae rfl rfl (al rfl rfl (Rg.sx rfl rfl rfl (by omega) ?_)))))))))));refine al rfl rfl (Rg.yL cH o2 rfl rfl rfl (by omega) (al rfl rfl (aE j7 rfl rfl rfl hW (v:= .int .u64 ((ws.getD (j/64) 0:Nat):Int)) (by rw[show(((j:Int)/64)).toNat=j/64 from by omega];exact gA (by omega)) (al rfl rfl (ae rfl rfl (al rfl rfl (Rg.sy rfl rfl rfl (by omega) (al rfl rfl (Rg.shr rfl rfl rfl (by omega) (bp (v':= .int .u64 ((ws.getD (j/64) 0/2^(j%64):Nat):Int)) (congrArg _ (by rw[show((j:Int)%64)=((j%64:Nat):Int)from by omega];exact Ls _ _ (by omega))) (al rfl rfl ?_)))))))))));refine Rg.and rfl rfl rfl (bp (v':= .int .u64 ((ws.getD (j/64) 0/2^(j%64)%2:Nat):Int)) (congrArg _ (by have:=AP (ws.getD (j/64) 0/2^(j%64)) 1 (Nat.lt_of_le_of_lt (Nat.div_le_self _ _) (eB.get _)) (by decide);rw[Nat.and_one_is_mod]at this;exact this)) (al rfl rfl (Rg.Ay rfl rfl rfl (aQ rfl rfl rfl (ai rfl rfl (ad (aH ?_)))))))
  first
  |exact aP rfl rfl ⟨congrArg Value.bool (by unfold JY bit;rw[decide_eq_true gm,dx,aC,Nat.testBit_eq_decide_div_mod_eq];exact decide_eq_decide.2 (by omega)),rfl⟩
  |exact aP rfl rfl ⟨congrArg Value.bool (by unfold JY;rw[decide_eq_false gm,fS]),rfl⟩
 ·refine ao rfl rfl rfl rfl (ao rfl rfl rfl rfl (ao rfl rfl rfl rfl (ao rfl rfl rfl rfl (ao rfl rfl rfl rfl (ao rfl rfl rfl rfl (ao rfl rfl rfl rfl (ao rfl rfl rfl rfl (ao rfl rfl rfl rfl (ao rfl rfl rfl rfl (ao rfl rfl rfl rfl (ao rfl rfl rfl rfl ?_)))))))))));refine ao rfl rfl rfl rfl (ay rfl rfl rfl (ai rfl rfl (ad (aH ?_))))
  first
  |exact aP rfl rfl ⟨congrArg Value.bool (by unfold JY bit;rw[decide_eq_true gm,dx,aC,Nat.testBit_eq_decide_div_mod_eq];exact decide_eq_decide.2 (by omega)),rfl⟩
  |exact aP rfl rfl ⟨congrArg Value.bool (by unfold JY;rw[decide_eq_false gm,fS]),rfl⟩
theorem Hx {M:az} {w0:World} {n:Nat} {ws:List Nat} {bs bw:Nat} (h:fR 161 165 n ws M w0 bs bw) {i:Int} (hb:∀j,bit ws j=true→j<n):
  Spec Tryz.prog 145 #[.pointer (some ⟨bs,0,none⟩),.int .i64 i,.bool true] w0 (fun v' w'=>∃rp,fR 161 165 n rp M w' bs bw∧(∀j:Nat,bit rp j=(bit ws j&&decide ((j:Int)≠i)))∧Step M w0 M w' (fun b=>b=bw)):=by
 have hS:=h.s;have hW:=h.w;have hlen:=h.len;have eB:=h.ok;have JL:=h.nn;have Y8:∀b:Nat,b=bw→M b:=fun b hb=>by rw[hb];exact h.mw
 refine aW (args:=[_,_,_]) (fn:=Tryz.f145) Tryz.func145 rfl (n:=31) Tryz.ntmps145 (aj (ah (ai rfl rfl (ad (aj (aj (ah (ae rfl rfl (ae rfl rfl ?_)))))))));refine aM rfl rfl Sj (CS h) (fun r wc h=>?_);obtain⟨rfl,rfl⟩:=h;refine Rg.not rfl rfl (bp (v':= .bool (decide (¬(0≤i∧i<n)))) (by rw[decide_not]) (ae rfl rfl ?_));refine aI (g:=11) rfl (fun BH=>?_) (fun BH=>?_)
 ·refine ao rfl rfl rfl rfl (ao rfl rfl rfl rfl (ao rfl rfl rfl rfl (ao rfl rfl rfl rfl (ao rfl rfl rfl rfl (aQ rfl rfl rfl (ad (lO rfl (aj (ah (ai rfl rfl (ad ?_)))))))))));refine aH ?_
  have Ea:bit ws i.toNat=false∨i<0:=by
   by_cases h0:i<0
   ·exact .inr h0
   ·left
    cases Od:bit ws i.toNat with
    |false=>rfl
    |true=>
     have:=hb _ Od
     first
     |omega
     |(exfalso;apply c1;unfold JY;rw[Od,decide_eq_true (by omega)];rfl)
  refine aP rfl rfl ⟨ws,h,fun j=>?_,(an _ _).ca (fun _ h=>h.elim) Y8⟩;by_cases hj:(j:Int)=i
  ·rw[decide_eq_false (fun h=>h hj),Bool.and_false];rcases Ea with h1|h1
   ·rw[show i.toNat=j from by omega]at h1;exact h1
   ·omega
  ·rw[decide_eq_true hj,iG]
 ·refine al rfl rfl (ae rfl rfl (al rfl rfl (ae rfl rfl (al rfl rfl ?_))));refine aM rfl rfl Y7 (Hw h) (fun r wc h=>?_);obtain⟨rfl,rfl⟩:=h;refine al rfl rfl (ae rfl rfl (al rfl rfl (Rg.bne jO rfl rfl rfl (ay rfl rfl rfl (ad ?_)))));refine bF rfl (fun c1=>?_) (fun c1=>?_)
  ·refine aj (ah (ai rfl rfl (ad (aH ?_))))
   have Ea:bit ws i.toNat=false∨i<0:=by
    by_cases h0:i<0
    ·exact .inr h0
    ·left
     cases Od:bit ws i.toNat with
     |false=>rfl
     |true=>
      have:=hb _ Od
      first
      |omega
      |(exfalso;apply c1;unfold JY;rw[Od,decide_eq_true (by omega)];rfl)
   refine aP rfl rfl ⟨ws,h,fun j=>?_,(an _ _).ca (fun _ h=>h.elim) Y8⟩;by_cases hj:(j:Int)=i
   ·rw[decide_eq_false (fun h=>h hj),Bool.and_false];rcases Ea with h1|h1
    ·rw[show i.toNat=j from by omega]at h1;exact h1
    ·omega
   ·rw[decide_eq_true hj,iG]
  ·refine aU (aj ?_);obtain⟨j,rfl⟩:∃j:Nat,i=j:=⟨i.toNat,by omega⟩;apply T.Ce (M:=M) mixed [] [b9.eq _,b9.eq _,b9.eq _,b9.eq (.slice (some ⟨bw,0,none⟩) ws.length ws.length),b9.eq _,b9.eq _,b9.eq (.pointer (some ⟨bw,((j:Int)/64).toNat,none⟩)),b9.eq (.int .u64 ((ws.getD (j/64) 0:Nat):Int)),b9.eq _,b9.eq _,b9.eq (.int .u64 ((2^(j%64):Nat):Int)),b9.eq (.int .u64 (((ws.getD (j/64) 0^^^2^(j%64)):Nat):Int)),b9.eq (.pointer (some ⟨bw,((j:Int)/64).toNat,none⟩))] 13
   ·rfl
   ·rfl
   ·rfl
   ·rfl
   ·rfl
   ·exact fun p hp=>by cases hp
   ·exact rO.none
   ·refine aF ?_ ?_
    ·intro wD E sD;refine ae rfl rfl ?_;exact ad ⟨rfl,rfl,_,rfl,rfl,an _ _⟩
    refine aF ?_ ?_
    ·intro wD E sD;refine aw (aR rfl ⟨_,rfl⟩ rfl ?_);exact ad ⟨rfl,rfl,_,rfl,rfl,an _ _⟩
    refine aF ?_ ?_
    ·intro wD E sD;refine aw (aS eu rfl rfl vw (by decide) rfl rfl ?_);exact ad ⟨rfl,rfl,_,rfl,rfl,an _ _⟩
    refine aF ?_ ?_
    ·intro wD E sD;refine aw (aE cH rfl rfl rfl (bS sD (by assumption)) rfl ?_);exact ad ⟨rfl,rfl,_,rfl,rfl,an _ _⟩
    refine aF ?_ ?_
    ·intro wD E sD;refine ae rfl rfl ?_;exact ad ⟨rfl,rfl,_,rfl,rfl,an _ _⟩
    refine aF ?_ ?_
    ·intro wD E sD;refine aw (Rg.sx rfl rfl rfl (by omega) ?_);exact ad ⟨rfl,rfl,_,rfl,rfl,an _ _⟩
    refine aF ?_ ?_
    ·intro wD E sD;refine aw (aw (Rg.yL cH o2 rfl rfl rfl (by omega) ?_));exact ad ⟨rfl,rfl,_,rfl,rfl,an _ _⟩
    refine aF ?_ ?_
    ·intro wD E sD;refine aw (aE j7 rfl rfl rfl (sD.aG hW) (v:= .int .u64 ((ws.getD (j/64) 0:Nat):Int)) (by rw[show(((j:Int)/64)).toNat=j/64 from by omega];exact gA (by omega)) ?_);exact ad ⟨rfl,rfl,_,rfl,rfl,an _ _⟩
    refine aF ?_ ?_
    ·intro wD E sD;refine ae rfl rfl ?_;exact ad ⟨rfl,rfl,_,rfl,rfl,an _ _⟩
    refine aF ?_ ?_
    ·intro wD E sD;refine aw (Rg.sy rfl rfl rfl (by omega) ?_);exact ad ⟨rfl,rfl,_,rfl,rfl,an _ _⟩
    refine aF ?_ ?_
    ·intro wD E sD;refine aw (Rg.shl rfl rfl rfl (by omega) (bp (v':= .int .u64 ((2^(j%64):Nat):Int)) (congrArg _ (by rw[show((j:Int)%64)=((j%64:Nat):Int)from by omega];exact Pf _ (by omega))) ?_));exact ad ⟨rfl,rfl,_,rfl,rfl,an _ _⟩
    refine aF ?_ ?_
    ·intro wD E sD;refine aw (aw (Rg.xor rfl rfl rfl (bp (v':= .int .u64 (((ws.getD (j/64) 0^^^2^(j%64)):Nat):Int)) (congrArg _ (Pe _ _ (eB.get _) (Nat.pow_lt_pow_right (by decide) (by omega)))) ?_)));exact ad ⟨rfl,rfl,_,rfl,rfl,an _ _⟩
    refine aF ?_ ?_
    ·intro wD E sD;refine aw (aw (aw (aw (aw (aw (aw (aw (aw (aw (aw (aw ?_)))))))))));refine aw (aw (Rg.yL cH o2 rfl rfl rfl (by omega) ?_));exact ad ⟨rfl,rfl,_,rfl,rfl,an _ _⟩
    exact bD.nil
   ·intro LM kI;refine aw (aw (aw (aw (aw (aw (aw (aw (aw (aw (aw (aw ?_)))))))))));refine aw ?_;refine bP (M:=M) (u:= .int .u64 ((ws.getD (j/64) 0:Nat):Int)) o2 rfl rfl (kI.aG hW) (by rw[show((j:Int)/64).toNat=j/64 from by omega];exact gA (by omega)) rfl h.mw (fun w5 Sk s5=>?_);rw[show((j:Int)/64).toNat=j/64 from by omega,oQ]at Sk;refine ad (aj (ah (ai rfl rfl (ad (aH ?_)))));have hX:(ws.getD (j/64) 0^^^2^(j%64))<2^64:=Nat.xor_lt_two_pow (eB.get _) (Nat.pow_lt_pow_right (by decide) (by omega));refine aP rfl rfl ⟨ws.set (j/64) (ws.getD (j/64) 0^^^2^(j%64)),(h.step kI (fun h=>h) (fun h=>h)).put s5 (by simp) Sk (eB.set hX),fun t=>?_,(kI.ca (fun _ h=>h.elim) Y8).trans s5 (fun _ _ h=>h)⟩
    have Y9:bit ws j=true:=by
     have:=ec.1 c1;unfold JY at this;rw[aC,bC]at this;exact this.2
    rw[EX eB (by omega)];by_cases ht:t=j
    ·subst ht;rw[Y9];simp
    ·rw[decide_eq_false ht,Bool.xor_false,decide_eq_true (by omega),iG]
theorem Ao {M:az} {w0:World} {n:Nat} {ws:List Nat} {bs bw:Nat} (h:fR 161 165 n ws M w0 bs bw) {i:Int} (hb:∀j,bit ws j=true→j<n):
  Spec Tryz.prog 102 #[.pointer (some ⟨bs,0,none⟩),.int .i64 i] w0 (fun v' w'=>∃rp,fR 161 165 n rp M w' bs bw∧(∀j:Nat,bit rp j=(bit ws j&&decide ((j:Int)≠i)))∧Step M w0 M w' (fun b=>b=bw)):=by
 refine aW (args:=[_,_]) (fn:=Tryz.f102) Tryz.func102 rfl (n:=8) Tryz.ntmps102 (aj (ah (ai rfl rfl (ad (aj (ah (ae rfl rfl (ae rfl rfl ?_))))))));refine aM rfl rfl Y6 (Hx h hb) (fun r1 w1 h=>?_);obtain⟨rp,h1,h2,h3⟩:=h;refine ai rfl rfl (ad (aH ?_));exact aP rfl rfl ⟨rp,h1,h2,h3⟩
theorem wM {M:az} {w0:World} {n:Nat} (hn:n≤1099511627776):
  Spec Tryz.prog 143 #[.int .i64 n] w0 (fun v' w'=>∃bs bw,v'= .pointer (some ⟨bs,0,none⟩)∧w0.heap.size≤bs∧w0.heap.size≤bw∧Step M w0 (ins (ins M bw) bs) w' aA∧fR 161 165 n (List.replicate ((n+63)/64) 0) (ins (ins M bw) bs) w' bs bw):=by
 refine aW (args:=[_]) (fn:=Tryz.f143) Tryz.func143 rfl (n:=13) Tryz.ntmps143 (aj (ah (ai rfl rfl (ad (aj (ah (ae rfl rfl (Rg.max2 rfl rfl rfl (bp (v':= .int .i64 n) (congrArg _ (by omega)) (ai rfl rfl (ad ?_)))))))))));refine aj (ah (ae rfl rfl (ae rfl rfl (bz rfl rfl rfl (by omega) (gM rfl rfl rfl (by omega) (Rg.sx rfl rfl rfl (by omega) (bp (v':= .int .i64 (((n+63)/64:Nat):Int)) (congrArg _ (by omega)) ?_)))))));refine Rg.mk0 M cH o2 rfl rfl rfl rfl (by omega) (by omega) (fun bw w1 z1 ZJ h1 s1=>?_);refine dX (places:=[(0,1),(1,1)]) eu Y4 Y5 rfl ⟨_,_,rfl,rfl,_,_,rfl,rfl,rfl⟩ (out:=[_,_]) ⟨0,[_],rfl,rfl,by simp[Value.cells],1,[_],rfl,rfl,by simp[Value.cells],rfl⟩ ?_;refine mH (ins M bw) rfl rfl (fun bs w2 z2 z2' h2 s2=>?_);have y1:=s1.size;refine ai rfl rfl (ad (aH ?_));refine aP rfl rfl ⟨bs,bw,rfl,by omega,z1,s1.ax s2,.inl rfl,.inr (.inl rfl),by omega,by rw[List.length_replicate];exact h2,?_,by simp,fun x hx=>by rw[List.eq_of_mem_replicate hx];decide,hn⟩;have:=s2.aG h1;rw[this];simp[l1]
end Go.K
namespace Go.K
open Go.Proofs
namespace TKSet4
theorem vw:TI Tryz.prog 159 (.slice none 0 0) 1 24:=by unfold TI;kernel_rfl
theorem o2:TI Tryz.prog 165 (.int .u64 0) 1 8:=by unfold TI;kernel_rfl
theorem NW:Enters Tryz.prog 143:=enters Tryz.func143 rfl (by decide)
end TKSet4
open TKSet4
set_option maxRecDepth 10000
end Go.K
namespace Go.K
open Go.Proofs
namespace TKSet3
theorem vw:TI Tryz.prog 159 (.slice none 0 0) 1 24:=by unfold TI;kernel_rfl
theorem o2:TI Tryz.prog 165 (.int .u64 0) 1 8:=by unfold TI;kernel_rfl
theorem Sm:Enters Tryz.prog 147:=enters Tryz.func147 rfl (by decide)
theorem Za:Enters Tryz.prog 190:=enters Tryz.func190 rfl (by decide)
end TKSet3
open TKSet3
set_option maxRecDepth 10000
theorem ui {M:az} {w0:World} {n:Nat} {ws:List Nat} {bs bw:Nat} (h:fR 161 165 n ws M w0 bs bw) {i:Int} (hi: -1≤i∧i≤1099511627776) (hb:∀j,bit ws j=true→j<n) (Hv:∃e fr,w0.heap[0]? =some (.cells (E0.map fun(k:Nat)=>Value.int .u8 (k:Int)).toArray e fr)):
  Spec Tryz.prog 147 #[.pointer (some ⟨bs,0,none⟩),.int .i64 i] w0 (fun v' w'=>(∃r,v'= .int .i64 r∧JZ ws i.toNat r∧ -1≤r∧r≤1099511627776)∧w0=w'):=by
 have hS:=h.s;have hW:=h.w;have hlen:=h.len;have eB:=h.ok;have JL:=h.nn;refine aW (args:=[_,_]) (fn:=Tryz.f147) Tryz.func147 rfl (n:=36) Tryz.ntmps147 (aj (ah (ai rfl rfl (ad (aj (ah (ae rfl rfl (Rg.max2 rfl rfl rfl (bp (v':= .int .i64 (i.toNat:Int)) (congrArg _ (by omega)) (ai rfl rfl (ad ?_)))))))))));refine aj (bj ?_);refine dI (σ:=Nat) (fun s=>[(0,.pointer (some ⟨bs,0,none⟩)),(1,.int .i64 s)]) (fun s w=>w0=w∧i.toNat≤s∧(∀t,i.toNat≤t→t<s→bit ws t=false)∧s≤1099511627840) (fun s=>n+64-s) i.toNat (.cons rfl (.cons rfl .nil)) ?_ ?_
 ·exact⟨rfl,a8 _,fun t h1 h2=>by omega,by omega⟩
 ·rintro p w1 ⟨rfl,hp,iK,rN⟩;refine aj (aj (ah (ae rfl rfl (ae rfl rfl (aR rfl ⟨_,rfl⟩ rfl (aS eu rfl rfl I3 (by decide) rfl rfl (aE ar rfl rfl rfl (by assumption) rfl (cf rfl rfl rfl (ad ?_)))))))));refine bF rfl (fun c2=>?_) (fun c2=>?_)
  ·refine aU (bj (aj (aj (ah (ae rfl rfl (aR rfl ⟨_,rfl⟩ rfl (aS eu rfl rfl vw (by decide) rfl rfl (aE cH rfl rfl rfl (by assumption) rfl (ae rfl rfl (Rg.sx rfl rfl rfl (by omega) (Rg.yL cH o2 rfl rfl rfl (by omega) ?_)))))))))));refine aE j7 rfl rfl rfl hW (v:= .int .u64 ((ws.getD (p/64) 0:Nat):Int)) (by rw[show(((p:Int)/64)).toNat=p/64 from by omega];exact gA (by omega)) (ae rfl rfl (Rg.sy rfl rfl rfl (by omega) (Rg.shr rfl rfl rfl (by omega) (bp (v':= .int .u64 ((ws.getD (p/64) 0/2^(p%64):Nat):Int)) (congrArg _ (by rw[show((p:Int)%64)=((p%64:Nat):Int)from by omega];exact Ls _ _ (by omega))) (ai rfl rfl (ad (aj (ah (ae rfl rfl (eN rfl rfl rfl (ad ?_)))))))))));refine bF rfl (fun c4=>?_) (fun c4=>?_)
   ·refine aj (ah (ae rfl rfl (ae rfl rfl ?_)));obtain⟨k,m,ri⟩:=EY (ws.getD (p/64) 0/2^(p%64)) (Nat.pos_of_ne_zero fun h=>c4 (by rw[h];rfl));have wY:=yP (eB.get _) (show p%64<64 by omega) ri;have Zb:ws.getD (p/64) 0/2^(p%64)<2^64:=Nat.lt_of_le_of_lt (Nat.div_le_self _ _) (eB.get _);refine aM rfl rfl Za (vz (k:=k) (m:=m) Hv ri Zb) (fun r wc h=>?_);obtain⟨rfl,rfl⟩:=h;refine bz rfl rfl rfl (by omega) (ai rfl rfl (ad (aH ?_)));have hlb:=fun t ht=>(xj (k:=k) (m:=m)).2 t ht
    have TM:bit ws (p+k)=true:=by rw[tb wY,ri];exact xj.1
    have:=hb _ TM
    exact aP rfl rfl ⟨⟨_,rfl,.inl ⟨p+k,by omega,by omega,TM,fun t h1 h2=>by
     rcases cB t p with h|h
     ·exact iK t h1 h
     ·have h3:=tb (ws:=ws) (i:=p) (t:=t-p) (by omega);rw[show p+(t-p)=t from by omega]at h3;rw[h3,ri];exact hlb _ (by omega)⟩,by omega,by omega⟩,rfl⟩
   ·have hz0:ws.getD (p/64) 0/2^(p%64)=0:=by
     have:=ec.1 c4;exact Int.ofNat.inj this
    refine aU (ah (ae rfl rfl (ae rfl rfl (Rg.sy rfl rfl rfl (by omega) (gM rfl rfl rfl (by omega) (bz rfl rfl rfl (by omega) (ai rfl rfl (ad ?_))))))));refine⟨rfl,p+(64-p%64),(.cons rfl (.cons (by rw[show((p+(64-p%64):Nat):Int)=(p:Int)+(64-(p:Int)%64)from by omega];rfl) .nil)),?_,?_⟩
    ·refine⟨rfl,by omega,fun t h1 h2=>?_,by omega⟩;rcases cB t p with h|h
     ·exact iK t h1 h
     ·have h3:=tb (ws:=ws) (i:=p) (t:=t-p) (by omega);rw[show p+(t-p)=t from by omega]at h3;rw[h3,hz0];simp
    ·show n+64-(p+(64-p%64))<n+64-p;omega
  ·refine cM (aj (ah (ai rfl rfl (ad (aH ?_)))))
   exact aP rfl rfl ⟨⟨_,rfl,.inr ⟨rfl,fun t h1=>by
    rcases cB t p with h|h
    ·exact iK t h1 h
    ·cases DP:bit ws t with
     |false=>rfl
     |true=>have:=hb t DP;omega⟩,by omega,by omega⟩,rfl⟩
theorem D5 {M:az} {w0:World} {bs:Nat} (hM:Lt M w0):
  Spec Tryz.prog 103 #[.pointer (some ⟨bs,0,none⟩)] w0 (fun v' w'=>∃bl,v'= .func (.func 146) #[] #[.pointer (some ⟨bl,0,none⟩)]∧w'.heap[bl]? =some (.cells #[.pointer (some ⟨bs,0,none⟩)] 88 (0,0))∧w0.heap.size≤bl∧Step M w0 M w' aA):=by
 refine aW (args:=[_]) (fn:=Tryz.f103) Tryz.func103 rfl (n:=4) Tryz.ntmps103 (aj (ah ?_));refine mH M rfl rfl (fun bl w1 h1 H9 hS s1=>?_);change w1.heap[bl]? =some (.cells #[.pointer (some ⟨bs,0,none⟩)] _ _)at hS;refine ai rfl rfl (ad (aj (ah (iD (xs:=[]) (ys:=[.tmp 1]) rfl rfl rfl (ai rfl rfl (ad (aH ?_)))))));exact aP rfl rfl ⟨bl,rfl,hS,h1,s1.back⟩
theorem B1 {w0:World} {n:Nat} {ws:List Nat} {bs bw bl yl:Nat} {J:Nat→az→World→Prop} {M:az} {Jx:World→Prop} (hb:∀j,bit ws j=true→j<n) (El:∀p M w,J p M w→w.heap[bl]? =some (.cells #[.pointer (some ⟨bs,0,none⟩)] 88 (0,0))∧fR 161 165 n ws M w bs bw∧(∃e fr,w.heap[0]? =some (.cells (E0.map fun(k:Nat)=>Value.int .u8 (k:Int)).toArray e fr))) (hy:∀(p j:Nat) (M:az) (w:World),J p M w→p≤j→bit ws j=true→(∀t,p≤t→t<j→bit ws t=false)→rj Tryz.prog yl [.int .i64 j].toArray w (fun r w'=>∃c,r= .bool c∧(c=true→∃M',J (j+1) M' w')∧(c=false→Jx w'))) (h0:J 0 M w0):
  Spec Tryz.prog 146 #[.func (.yield yl) #[] #[],.pointer (some ⟨bl,0,none⟩)] w0 (fun _ w'=>(∃p M',J p M' w'∧∀t,p≤t→bit ws t=false)∨Jx w'):=by
 obtain⟨On,LW,Zc⟩:=El _ _ _ h0;refine aW (args:=[_,_]) (fn:=Tryz.f146) Tryz.func146 rfl (n:=17) Tryz.ntmps146 (aj (ah (aE iS rfl rfl rfl (by assumption) rfl ?_)));refine aM rfl rfl Sm (ui LW (i:=0) (by omega) hb Zc) (fun r wc h=>?_);obtain⟨⟨r,rfl,hr,OE,JN⟩,rfl⟩:=h;refine ai rfl rfl (ad (bj ?_));refine dI (σ:=Nat×Int) (fun s=>[(0,.func (.yield yl) #[] #[]),(1,.pointer (some ⟨bl,0,none⟩)),(3,.int .i64 s.2)]) (fun s w=>(∃M1,J s.1 M1 w)∧JZ ws s.1 s.2∧ -1≤s.2∧s.2≤1099511627776∧s.1≤n) (fun s=>n+1-s.1) (0,r) (.cons rfl (.cons rfl (.cons rfl .nil))) ?_ ?_
 ·exact⟨⟨M,h0⟩,hr,OE,JN,bH _⟩
 ·clear hr OE JN;rintro⟨p,r⟩ w1 ⟨⟨M1,hJ⟩,hr,OE,JN,RM⟩;dsimp only at hJ hr OE JN RM ⊢;refine aj (aj (ah (ae rfl rfl (dA rfl rfl rfl (ae rfl rfl ?_)))));refine aI (g:=8) rfl (fun fM=>?_) (fun fM=>?_)
  ·refine al rfl rfl (ae rfl rfl (al rfl rfl (ae rfl rfl (al rfl rfl ?_))))
   have hrj:∃j:Nat,r=j∧p≤j∧bit ws j=true∧∀t,p≤t→t<j→bit ws t=false:=by
    rcases hr with h|h
    ·exact h
    ·omega
   obtain⟨j,rfl,Zd,Sn,iK⟩:=hrj;have hjn:=hb j Sn;refine Rg.yield rfl (vs:=[.int .i64 j]) rfl rfl (hy p j M1 _ hJ Zd Sn iK) (fun r4 w5 h5=>?_);obtain⟨c,rfl,hc5,R9⟩:=h5;refine bp (v':= .bool (decide (c=true))) (by simp) (aQ rfl rfl rfl (ad ?_));refine bF rfl (fun c1=>?_) (fun c1=>?_)
   ·obtain⟨M2,TF⟩:=hc5 c1;obtain⟨Eb,yi,Ze⟩:=El _ _ _ TF;refine aU (aj (bj (aU (ah (aE iS rfl rfl rfl (by assumption) rfl (ae rfl rfl (bz rfl rfl rfl (by omega) ?_)))))));refine aM rfl rfl Sm (ui yi (i:=(j:Int)+1) (by have:=yi.nn;omega) hb Ze) (fun r wc h=>?_);obtain⟨⟨r2,rfl,Sq,NL,hr4⟩,rfl⟩:=h;refine ai rfl rfl (ad ?_);refine⟨rfl,(j+1,r2),(.cons rfl (.cons rfl (.cons rfl .nil))),?_,?_⟩
    ·refine⟨⟨M2,TF⟩,?_,NL,hr4,by simp only;omega⟩;rw[show((j:Int)+1).toNat=j+1 from by omega]at Sq;exact Sq
    ·simp only;omega
   ·refine cM ?_;change sw Tryz.prog Tryz.f146 (fun _ w'=>(∃p M',J p M' w'∧∀t,p≤t→bit ws t=false)∨Jx w') .normal _ [] _
    first
    |exact gZ rfl (.inr (R9 (by simpa using c1)))
    |(have lr:∀t,p≤t→bit ws t=false:=by
       rcases hr with⟨j,h,_⟩|h
       ·omega
       ·exact h.2
      exact gZ rfl (.inl ⟨p,M1,hJ,lr⟩))
  ·refine ao rfl rfl rfl rfl (ao rfl rfl rfl rfl (ao rfl rfl rfl rfl (ay rfl rfl rfl (ad (gL rfl (cM ?_))))));change sw Tryz.prog Tryz.f146 (fun _ w'=>(∃p M',J p M' w'∧∀t,p≤t→bit ws t=false)∨Jx w') .normal _ [] _
   first
   |exact gZ rfl (.inr (R9 (by simpa using c1)))
   |(have lr:∀t,p≤t→bit ws t=false:=by
      rcases hr with⟨j,h,_⟩|h
      ·omega
      ·exact h.2
     exact gZ rfl (.inl ⟨p,M1,hJ,lr⟩))
end Go.K
namespace Go.K
open Go.Proofs
namespace TKSet2
theorem vw:TI Tryz.prog 159 (.slice none 0 0) 1 24:=by unfold TI;kernel_rfl
theorem o2:TI Tryz.prog 165 (.int .u64 0) 1 8:=by unfold TI;kernel_rfl
theorem NW:Enters Tryz.prog 143:=enters Tryz.func143 rfl (by decide)
theorem Zf:Enters Tryz.prog 144:=enters Tryz.func144 rfl (by decide)
end TKSet2
open TKSet2
set_option maxRecDepth 10000
theorem wN {ws vs:List Nat} {n:Nat} (hl:ws.length=(n+63)/64) (hv:vs.length=(n+63)/64) (hr:0<n%64) (h1:∀j,j<64*ws.length→bit vs j= !bit ws j) (j:Nat):bit (vs.set (vs.length-1) (vs.getD (vs.length-1) 0%2^(n%64))) j=(decide (j<n)&& !bit ws j):=by
 rw[xm _ (by omega)];by_cases hj:j/64=vs.length-1
 ·rw[if_pos hj,Nat.testBit_mod_two_pow];have h2:=h1 j (by omega);have h3:(vs.getD (vs.length-1) 0).testBit (j%64)=bit vs j:=by unfold bit;rw[hj]
  rw[h3,h2];congr 1;exact decide_eq_decide.2 (by omega)
 ·rw[if_neg hj];by_cases qg:j<n
  ·rw[h1 j (by omega),decide_eq_true qg,dx]
  ·rw[decide_eq_false qg,fS,Ih (by omega)]
theorem Ap {ws vs:List Nat} {n:Nat} (hl:ws.length=(n+63)/64) (hr:n%64=0) (h1:∀j,j<64*ws.length→bit vs j= !bit ws j) (h2:∀j,64*ws.length≤j→bit vs j=false) (j:Nat):bit vs j=(decide (j<n)&& !bit ws j):=by
 by_cases qg:j<n
 ·rw[h1 j (by omega),decide_eq_true qg,dx]
 ·rw[decide_eq_false qg,fS,h2 j (by omega)]
theorem D6 {M:az} {w0:World} {n:Nat} {ws:List Nat} {bs bw:Nat} (h:fR 161 165 n ws M w0 bs bw):
  Spec Tryz.prog 144 #[.pointer (some ⟨bs,0,none⟩)] w0 (fun v' w'=>∃os ow rp,v'= .pointer (some ⟨os,0,none⟩)∧w0.heap.size≤os∧w0.heap.size≤ow∧Step M w0 (ins (ins M ow) os) w' aA∧fR 161 165 n rp (ins (ins M ow) os) w' os ow∧∀j,bit rp j=(decide (j<n)&& !bit ws j)):=by
 have hS:=h.s;have hW:=h.w;have hlen:=h.len;have eB:=h.ok;have JL:=h.nn;refine aW (args:=[_]) (fn:=Tryz.f144) Tryz.func144 rfl (n:=56) Tryz.ntmps144 (aj (ah (ai rfl rfl (ad (aj (ah (ae rfl rfl (aR rfl ⟨_,rfl⟩ rfl (aS eu rfl rfl I3 (by decide) rfl rfl (aE ar rfl rfl rfl (by assumption) rfl ?_))))))))));refine aM rfl rfl NW (wM (M:=M) JL) (fun r1 w1 h=>?_);obtain⟨os,ow,rfl,z1,z2,s1,Zg⟩:=h;obtain⟨M1,vr⟩:∃M1,M1=ins (ins M ow) os:=⟨_,rfl⟩;rw[←vr]at s1 Zg;have h1:=h.step s1 (fun h=>h) (fun h=>h);have hS1:=h1.s;have lbs:=ak hS;have lbw:=ak hW;refine ai rfl rfl (ad (aj (aj (ah (ae rfl rfl (aR rfl ⟨_,rfl⟩ rfl (aS eu rfl rfl vw (by decide) rfl rfl (aE cH rfl rfl rfl (by assumption) rfl (Rg.xl cH rfl rfl (ae rfl rfl (ad ?_)))))))))));refine bj ?_;refine dI (σ:=Nat×List Nat) (fun s=>[(0,.pointer (some ⟨bs,0,none⟩)),(3,.pointer (some ⟨os,0,none⟩)),(15,.slice (some ⟨bw,0,none⟩) ws.length ws.length),(16,.int .i64 ws.length),(17,.int .i64 s.1)]) (fun s w=>s.1≤ws.length∧fR 161 165 n ws M1 w bs bw∧fR 161 165 n s.2 M1 w os ow∧(∀j,j<64*s.1→bit s.2 j= !bit ws j)∧(∀j,64*s.1≤j→bit s.2 j=false)∧Step M1 w1 M1 w (fun b=>b=ow)) (fun s=>ws.length-s.1) (0,List.replicate ((n+63)/64) 0) (.cons rfl (.cons rfl (.cons rfl (.cons rfl (.cons rfl .nil))))) ?_ ?_
 ·exact⟨bH _,h1,Zg,fun j hj=>by omega,fun j hj=>yO _ _,(an _ _).ca (fun _ h=>h.elim) (fun b hb=>by rw[hb];exact Zg.mw)⟩
 ·rintro⟨k,vs⟩ w2 ⟨hk,h2,x9,qh,yf,S2⟩;dsimp only at hk x9 qh yf ⊢;have hS2:=h2.s;have hOS:=x9.s;have jo:=x9.len;refine aj (ah (cf rfl rfl rfl (ad (aj ?_))));refine bF rfl (fun c3=>?_) (fun c3=>?_)
  ·refine aU (aj (bj (aj (ah (ae rfl rfl (Rg.yL cH o2 rfl rfl rfl (by omega) (aE j7 rfl rfl rfl h2.w (v:= .int .u64 ((ws.getD (k) 0:Nat):Int)) (by rw[show((k:Int)).toNat=k from by omega];exact gA (by omega)) (ai rfl rfl (ai rfl rfl (ad (ah ?_)))))))))));refine ae rfl rfl (aR rfl ⟨_,rfl⟩ rfl (aS eu rfl rfl vw (by decide) rfl rfl (aE cH rfl rfl rfl (by assumption) rfl (ae rfl rfl (ae rfl rfl (Rg.Pd rfl rfl (eB.get _) (Rg.yL cH o2 rfl rfl rfl (by omega) ?_)))))));refine bP (M:=M1) (u:= .int .u64 ((vs.getD k 0:Nat):Int)) o2 rfl rfl x9.w (by rw[aC];exact gA (by omega)) rfl x9.mw (fun w5 Sk s5=>?_);rw[aC,oQ]at Sk;refine ad (ah (bz rfl rfl rfl (by omega) (ae rfl rfl (ad ?_))));refine⟨rfl,(k+1,vs.set k (2^64-1-ws.getD k 0)),(.cons rfl (.cons rfl (.cons rfl (.cons rfl (.cons rfl .nil))))),?_,?_⟩
   ·refine⟨by simp only;omega,h2.step s5 (by omega) (by omega),x9.put s5 (by simp) Sk (x9.ok.set (by omega)),fun j hj=>?_,fun j hj=>?_,S2.trans s5 (fun _ _ h=>h)⟩
    ·simp only at hj ⊢;rw[xm _ (by omega)];by_cases OB:j/64=k
     ·rw[if_pos OB,E1 (eB.get _) (by omega)];unfold bit;rw[OB]
     ·rw[if_neg OB];exact qh j (by omega)
    ·simp only at hj ⊢;rw[xm _ (by omega),if_neg (by omega)];exact yf j (by omega)
   ·simp only;omega
  ·refine cM (aj (aj (ah (ae rfl rfl (aR rfl ⟨_,rfl⟩ rfl (aS eu rfl rfl I3 (by decide) rfl rfl (aE ar rfl rfl rfl (by assumption) rfl (Rg.sy rfl rfl rfl (by omega) (bp (v':= .int .i64 ((n%64:Nat):Int)) (congrArg _ (by omega)) (ai rfl rfl (ad ?_)))))))))));refine aj (ah (ae rfl rfl (mG rfl rfl rfl (ad ?_))));refine bF rfl (fun c8=>?_) (fun c8=>?_)
   ·have N9:=Nat.two_pow_pos (n%64);have hp3:2^(n%64)<2^64:=Nat.pow_lt_pow_right (by decide) (by omega);apply T.Ce (M:=M1) mixed [] [b9.eq _,b9.eq _,b9.eq _,b9.eq (.slice (some ⟨ow,0,none⟩) vs.length vs.length),b9.eq _,b9.eq _,b9.eq _,b9.eq (.slice (some ⟨ow,0,none⟩) vs.length vs.length),b9.eq (.int .i64 vs.length),b9.eq (.int .i64 ((vs.length-1:Nat):Int)),b9.eq (.pointer (some ⟨ow,((vs.length-1:Nat):Int).toNat,none⟩)),b9.eq (.int .u64 ((vs.getD (vs.length-1) 0:Nat):Int)),b9.eq _,b9.eq (.int .u64 ((2^(n%64):Nat):Int)),b9.eq (.int .u64 ((2^(n%64)-1:Nat):Int)),b9.eq (.int .u64 (((vs.getD (vs.length-1) 0%2^(n%64)):Nat):Int)),b9.eq (.pointer (some ⟨ow,((vs.length-1:Nat):Int).toNat,none⟩))] 17
    ·rfl
    ·rfl
    ·rfl
    ·rfl
    ·rfl
    ·exact fun p hp=>by cases hp
    ·exact rO.none
    ·refine aF ?_ ?_
     ·intro wD E sD;refine ae rfl rfl ?_;exact ad ⟨rfl,rfl,_,rfl,rfl,an _ _⟩
     refine aF ?_ ?_
     ·intro wD E sD;refine aw (aR rfl ⟨_,rfl⟩ rfl ?_);exact ad ⟨rfl,rfl,_,rfl,rfl,an _ _⟩
     refine aF ?_ ?_
     ·intro wD E sD;refine aw (aS eu rfl rfl vw (by decide) rfl rfl ?_);exact ad ⟨rfl,rfl,_,rfl,rfl,an _ _⟩
     refine aF ?_ ?_
     ·intro wD E sD;refine aw (aE cH rfl rfl rfl (bS sD (by assumption)) rfl ?_);exact ad ⟨rfl,rfl,_,rfl,rfl,an _ _⟩
     refine aF ?_ ?_
     ·intro wD E sD;refine ae rfl rfl ?_;exact ad ⟨rfl,rfl,_,rfl,rfl,an _ _⟩
     refine aF ?_ ?_
     ·intro wD E sD;refine aw (aR rfl ⟨_,rfl⟩ rfl ?_);exact ad ⟨rfl,rfl,_,rfl,rfl,an _ _⟩
     refine aF ?_ ?_
     ·intro wD E sD;refine aw (aS eu rfl rfl vw (by decide) rfl rfl ?_);exact ad ⟨rfl,rfl,_,rfl,rfl,an _ _⟩
     refine aF ?_ ?_
     ·intro wD E sD;refine aw (aE cH rfl rfl rfl (bS sD (by assumption)) rfl ?_);exact ad ⟨rfl,rfl,_,rfl,rfl,an _ _⟩
     refine aF ?_ ?_
     ·intro wD E sD;refine aw (Rg.xl cH rfl rfl ?_);exact ad ⟨rfl,rfl,_,rfl,rfl,an _ _⟩
     refine aF ?_ ?_
     ·intro wD E sD;refine aw (gM rfl rfl rfl (by omega) (bp (v':= .int .i64 ((vs.length-1:Nat):Int)) (congrArg _ (by omega)) ?_));exact ad ⟨rfl,rfl,_,rfl,rfl,an _ _⟩
     refine aF ?_ ?_
     ·intro wD E sD;refine aw (aw (Rg.yL cH o2 rfl rfl rfl (by omega) ?_));exact ad ⟨rfl,rfl,_,rfl,rfl,an _ _⟩
     refine aF ?_ ?_
     ·intro wD E sD;refine aw (aE j7 rfl rfl rfl (sD.aG x9.w) (v:= .int .u64 ((vs.getD (vs.length-1) 0:Nat):Int)) (by rw[aC];exact gA (by omega)) ?_);exact ad ⟨rfl,rfl,_,rfl,rfl,an _ _⟩
     refine aF ?_ ?_
     ·intro wD E sD;refine ae rfl rfl ?_;exact ad ⟨rfl,rfl,_,rfl,rfl,an _ _⟩
     refine aF ?_ ?_
     ·intro wD E sD;refine aw (Rg.shl rfl rfl rfl (by omega) (bp (v':= .int .u64 ((2^(n%64):Nat):Int)) (congrArg _ (Pf _ (by omega))) ?_));exact ad ⟨rfl,rfl,_,rfl,rfl,an _ _⟩
     refine aF ?_ ?_
     ·intro wD E sD;refine aw (Rg.KT rfl rfl rfl (bp (v':= .int .u64 ((2^(n%64)-1:Nat):Int)) (congrArg _ (by rw[show((2^(n%64):Nat):Int)-1=((2^(n%64)-1:Nat):Int)from by omega,xk,ll (by omega)])) ?_));exact ad ⟨rfl,rfl,_,rfl,rfl,an _ _⟩
     refine aF ?_ ?_
     ·intro wD E sD;refine aw (aw (Rg.and rfl rfl rfl (bp (v':= .int .u64 (((vs.getD (vs.length-1) 0%2^(n%64)):Nat):Int)) (congrArg _ (by rw[AP _ _ (x9.ok.get _) (by omega),Nat.and_two_pow_sub_one_eq_mod])) ?_)));exact ad ⟨rfl,rfl,_,rfl,rfl,an _ _⟩
     refine aF ?_ ?_
     ·intro wD E sD;refine aw (aw (aw (aw (aw (aw (aw (aw (aw (aw (aw (aw ?_)))))))))));refine aw (aw (aw (aw (aw (aw (Rg.yL cH o2 rfl rfl rfl (by omega) ?_))))));exact ad ⟨rfl,rfl,_,rfl,rfl,an _ _⟩
     exact bD.nil
    ·intro Ou CN;refine aw (aw (aw (aw (aw (aw (aw (aw (aw (aw (aw (aw ?_)))))))))));refine aw (aw (aw (aw (aw ?_))));refine bP (M:=M1) (u:= .int .u64 ((vs.getD (vs.length-1) 0:Nat):Int)) o2 rfl rfl (CN.aG x9.w) (by rw[aC];exact gA (by omega)) rfl x9.mw (fun w9 Zh s9=>?_);rw[aC,oQ]at Zh;refine ad (aj (ah (ae rfl rfl (ai rfl rfl (ad (aH ?_))))));have uK:k=ws.length:=by omega
     first
     |exact aP rfl rfl ⟨os,ow,vs.set (vs.length-1) (vs.getD (vs.length-1) 0%2^(n%64)),rfl,z1,z2,by rw[←vr];exact(s1.cx S2 (fun b hb=>by omega)).ax CN |>.cx s9 (fun b hb=>by omega),by rw[←vr];exact(x9.step CN (fun h=>h) (fun h=>h)).put s9 (by simp) Zh (x9.ok.set (Nat.lt_of_le_of_lt (Nat.mod_le _ _) (x9.ok.get _))),fun j=>wN hlen jo (by omega) (by rw[←uK];exact qh) j⟩
     |exact aP rfl rfl ⟨os,ow,vs,rfl,z1,z2,by rw[←vr];exact s1.cx S2 (fun b hb=>by omega),by rw[←vr];exact x9,fun j=>Ap hlen (by omega) (by rw[←uK];exact qh) (by rw[←uK];exact yf) j⟩
   ·refine aU (aj (ah (ae rfl rfl (ai rfl rfl (ad (aH ?_))))));have uK:k=ws.length:=by omega
    first
    |exact aP rfl rfl ⟨os,ow,vs.set (vs.length-1) (vs.getD (vs.length-1) 0%2^(n%64)),rfl,z1,z2,by rw[←vr];exact(s1.cx S2 (fun b hb=>by omega)).ax CN |>.cx s9 (fun b hb=>by omega),by rw[←vr];exact(x9.step CN (fun h=>h) (fun h=>h)).put s9 (by simp) Zh (x9.ok.set (Nat.lt_of_le_of_lt (Nat.mod_le _ _) (x9.ok.get _))),fun j=>wN hlen jo (by omega) (by rw[←uK];exact qh) j⟩
    |exact aP rfl rfl ⟨os,ow,vs,rfl,z1,z2,by rw[←vr];exact s1.cx S2 (fun b hb=>by omega),by rw[←vr];exact x9,fun j=>Ap hlen (by omega) (by rw[←uK];exact qh) (by rw[←uK];exact yf) j⟩
theorem D7 {M:az} {w0:World} {n:Nat} (hn:n≤1099511627776):
  Spec Tryz.prog 101 #[.int .i64 n] w0 (fun v' w'=>∃os ow rp M',v'= .pointer (some ⟨os,0,none⟩)∧w0.heap.size≤os∧w0.heap.size≤ow∧Step M w0 M' w' aA∧fR 161 165 n rp M' w' os ow∧∀j,bit rp j=decide (j<n)):=by
 refine aW (args:=[_]) (fn:=Tryz.f101) Tryz.func101 rfl (n:=6) Tryz.ntmps101 (aj (ah (ai rfl rfl (ad (aj (ah (ae rfl rfl ?_)))))));refine aM rfl rfl NW (wM (M:=M) hn) (fun r1 w1 h=>?_);obtain⟨bs,bw,rfl,z1,z2,s1,h1⟩:=h;refine aM rfl rfl Zf (D6 h1) (fun r2 w2 h=>?_);obtain⟨os,ow,rp,rfl,z3,z4,s2,h2,hb⟩:=h;have y1:=s1.size;refine ai rfl rfl (ad (aH ?_));exact aP rfl rfl ⟨os,ow,rp,_,rfl,by omega,by omega,s1.ax s2,h2,fun j=>by rw[hb j,yO];simp⟩
end Go.K
namespace Go.K
open Go.Proofs
namespace TKSet5
theorem Zi:Enters Tryz.prog 103:=enters Tryz.func103 rfl (by decide)
theorem Zj:Enters Tryz.prog 146:=enters Tryz.func146 rfl (by decide)
end TKSet5
open TKSet5
set_option maxRecDepth 10000
def low (ws:List Nat):Nat→List Int
 |0=>[]
 |p+1=>if bit ws p then low ws p++[(p:Int)]else low ws p
theorem ya (ws:List Nat):∀p,(low ws p).length≤p
 |0=>a8 _
 |p+1=>by
  have:=ya ws p;unfold low;split
  ·simp;omega
  ·omega
theorem pZ {ws:List Nat} {p:Nat}:∀{j:Nat},p≤j→(∀t,p≤t→t<j→bit ws t=false)→low ws j=low ws p
 |0,h,_=>by rw[show p=0 by omega]
 |j+1,h,iK=>by
  rcases dO h with e|h1
  ·rw[e]
  ·rw[low,iK j (by omega) (by omega)];simp only[Bool.false_eq_true,if_false];exact pZ (by omega) (fun t h1 h2=>iK t h1 (by omega))
theorem JE:BZ (RT.int .i64):=fun _ _ _ _ _ _ h=>h
structure Es (n:Nat) (ws:List Nat) (bs bw bl:Nat) (M:az) (w:World):Prop where
 f: ¬M bl∧¬M bs∧¬M bw∧¬M 0
 l:w.heap[bl]? =some (.cells #[.pointer (some ⟨bs,0,none⟩)] 88 (0,0))
 s:fR 161 165 n ws (fun _=>True) w bs bw
 t:∃e fr,w.heap[0]? =some (.cells (E0.map fun(k:Nat)=>Value.int .u8 (k:Int)).toArray e fr)
theorem Es.keeps {n:Nat} {ws:List Nat} {bs bw bl:Nat} {M M':az} {w w':World} (h:Es n ws bs bw bl M w) (l:Le M w M' w'):Es n ws bs bw bl M' w':=by
 obtain⟨⟨f1,f2,f3,f4⟩,hl,hs,e,fr,ht⟩:=h;have a1:=l bl (ak hl) f1;have a2:=l bs (ak hs.s) f2;have a3:=l bw (ak hs.w) f3;have a4:=l 0 (ak ht) f4;exact⟨⟨a1.1,a2.1,a3.1,a4.1⟩,a1.2.trans hl,⟨trivial,trivial,hs.ne,a2.2.trans hs.s,a3.2.trans hs.w,hs.len,hs.ok,hs.nn⟩,e,fr,a4.2.trans ht⟩
theorem B2 {M:az} {w0:World} {n:Nat} {ws:List Nat} {bs bw:Nat} (hM:Lt M w0) (h:fR 161 165 n ws (fun _=>True) w0 bs bw) (hb:∀j,bit ws j=true→j<n) (hf: ¬M bs∧¬M bw∧¬M 0) (Hv:∃e fr,w0.heap[0]? =some (.cells (E0.map fun(k:Nat)=>Value.int .u8 (k:Int)).toArray e fr)):
  Spec Tryz.prog 52 #[.pointer (some ⟨bs,0,none⟩)] w0 (fun v w=>∃M',Own (RT.int .i64) 3 M' w w0.heap.size v (low ws n)∧Step M w0 M' w aA):=by
 have ku:=hM;refine nc (args:=[_]) (fn:=Tryz.f52) Tryz.func52 rfl (n:=13) Tryz.ntmps52 ?_;have S:Step M w0 M w0 aA:=(an _ _).ca (fun _ h=>h.elim) (fun _ h=>h.elim);refine aj (ah (ai rfl rfl (ad (aj (ah ?_)))));refine ff M nZ rfl (fun mK Dq PO PQ jH n4=>?_);obtain⟨nr,nt⟩:∃M',M'=ins M mK:=⟨_,rfl⟩;rw[←nt]at n4;have ib:nr mK:=by rw[nt];exact .inl rfl
 change Dq.heap[mK]? =some (.cells #[.slice none 0 0] _ _)at jH;replace hM:=n4.lt hM;have:=S.size;replace S:=S.ax n4;refine ad (aj (aj (ah (ae rfl rfl ?_))));refine aM rfl rfl Zi (D5 (bs:=bs) hM) (fun r2 w2 hc=>?_);obtain⟨bl,rfl,gl,zG,s2⟩:=hc;have fl: ¬nr bl:=fun h=>by have:=hM _ h;omega
 have hk:Es n ws bs bw bl nr w2:=by
  obtain⟨e,fr,ht⟩:=Hv;have q:=S.ax s2;exact⟨⟨fl,fun hn=>hf.1 ((q.mem _ (ak h.s)).1 hn),fun hn=>hf.2.1 ((q.mem _ (ak h.w)).1 hn),fun hn=>hf.2.2 ((q.mem _ (ak ht)).1 hn)⟩,gl,⟨trivial,trivial,h.ne,q.aG h.s,q.aG h.w,h.len,h.ok,h.nn⟩,e,fr,q.aG ht⟩
 have:=ak jH;replace ib:=(s2.mem _ this).2 ib;replace jH:=s2.aG jH;replace hM:=s2.lt hM;have:=S.size;replace S:=S.ax s2;refine ad (bj ?_);refine T.range (gf:=146) (lb:=[.pointer (some ⟨bl,0,none⟩)].toArray) rfl Zj (fun rec na=>?_);obtain⟨D,hD⟩:∃D,D=w2.heap.size:=⟨_,rfl⟩;obtain⟨Mr,h0⟩:=R1 (A:=RT.int .i64) (e:=3) (T:=32) (C:=216) (K:=Es n ws bs bw bl) (st:=rec .ready none) Es.keeps hM S jH ib hk (by omega);rw[←hD]at na h0 ⊢;refine Spec.mono (B1 (M:=fun _=>True) (J:=fun p Ma w=>Ma=(fun _=>True)∧∃M' vo,Ah (RT.int .i64) 3 32 216 (Es n ws bs bw bl) M w0 mK D (rec .ready none) vo (low ws p) M' w) (Jx:=fun _=>False) hb (fun p Ma w ⟨e,M',vo,h⟩=>by subst e;exact⟨h.k.l,h.k.s,h.k.t⟩) (fun p j Ma wr hJ Zd Sn iK=>?_) ⟨rfl,Mr,_,h0⟩) (fun _ w3 h3=>?_)
 ·obtain⟨_,M',vo,h⟩:=hJ;have hjn:=hb j Sn;have JL:=h.k.s.nn;have HZ:=ya ws p;refine lx (ps:=[7]) (vs:=[.int .i64 (j:Int)]) na h.r rfl (by decide) (ah (ai rfl rfl (ad ?_)));refine⟨rfl,h.r,?_⟩;have h4:=h.mN Es.keeps (st':=rec .busy none);have s4:Step M' wr M' (wr.putObj (D+1) (.loop (rec .busy none))) (fun k=>k=D+1):=dK h.mr;generalize wr.putObj (D+1) _=w4 at h4 s4 ⊢;refine bj (ah (aE av rfl rfl rfl h4.o rfl (bp (v':=vo) rfl (ae rfl rfl ?_))));refine eW (A:=RT.int .i64) (hn:=by decide) (M:=M') av I3 (by decide) rfl rfl h4.lt (B7.2 ⟨rfl,by show-9223372036854775808≤(j:Int)∧(j:Int)≤9223372036854775807;omega⟩) (.inr ⟨rfl,rfl⟩) (fun u5 w5 AY s5=>?_);have h6:=h4.bg Es.keeps s5;refine dh (M:=M') (base:=w0.heap.size) av I3 rfl rfl rfl rfl h6.own AY (aq _ _) (by simp;omega) (by simp;omega) h6.S.size (fun v6 M6 w6 ry s6=>?_);obtain⟨⟨YN,YO⟩,HF⟩:=h6.grow Es.keeps (by decide) s6 ry;refine bP (M:=M6) nZ rfl rfl YN rfl (by obtain⟨_,_,he,_⟩:=ry.isSlice;rw[he];rfl) YO (fun w7 g7 s7=>?_);refine ad ?_;have h8:=(HF s7 g7).mN Es.keeps (st':=rec .ready none);exact⟨(HF s7 g7).r,true,rfl,fun _=>⟨_,rfl,M6,v6,by rw[low,if_pos Sn,pZ Zd iK];exact h8⟩,fun h=>by cases h⟩
 ·obtain⟨p,_,⟨_,M',vo,h⟩,lr⟩:=h3.resolve_right id;left;refine⟨h.r,?_⟩;have h5:=h.mN Es.keeps (st':=rec .exhausted none);generalize w3.putObj (D+1) _=wE at h5 ⊢;refine aj (ah (aE av rfl rfl rfl h5.o rfl (bp (v':=vo) rfl (ai rfl rfl (ad (aH ?_))))));have sE:Step M' wE M' (wE.putObj D (.deferred none)) (fun k=>k=D):=dK h5.md;have hz:=h5.z;have hS:=h5.S.cx sE (fun k (hk:k=D)=>by omega)
  have ho:=h5.own.step sE (fun b hb (hn:b=D)=>by
   obtain⟨cs,hc⟩:=h5.own.isCells hb;rw[hn,h5.d]at hc;cases hc)
  have e:low ws n=low ws p:=by
   rcases Nat.le_total p n with h1|h1
   ·exact pZ h1 (fun t h2 _=>lr t h2)
   ·exact(pZ h1 (fun t h2 _=>by
     cases DP:bit ws t with
     |false=>rfl
     |true=>have:=hb t DP;omega)).symm
  exact AL rfl rfl h5.d ⟨M',by rw[e];exact ho,hS⟩
theorem mj {M:az} {w0:World} {n:Nat} {ws:List Nat} {bs bw:Nat} (hM:Lt M w0) (h:fR 161 165 n ws M w0 bs bw) (hb:∀j,bit ws j=true→j<n) (h0: ¬M 0) (Hv:∃e fr,w0.heap[0]? =some (.cells (E0.map fun(k:Nat)=>Value.int .u8 (k:Int)).toArray e fr)):Spec Tryz.prog 52 #[.pointer (some ⟨bs,0,none⟩)] w0 (fun v w=>((RT.int .i64).sl).V M w (low ws n) v∧Step M w0 M w aA):=
 (B2 (M:=fun b=>M b∧b≠bs∧b≠bw) (fun b hb=>hM b hb.1) ⟨trivial,trivial,h.ne,h.s,h.w,h.len,h.ok,h.nn⟩ hb ⟨fun h=>h.2.1 rfl,fun h=>h.2.2 rfl,fun h=>h0 h.1⟩ Hv).mono fun v w ⟨M',ho,s⟩=>ho.NR JE s (a8 _) hM (by have:=ya ws n;have:=h.nn;omega)
end Go.K
namespace Go.K
section
variable {P:Program} {r:Option Nat} {n:Nat} {L:Sl} {ds:List Deferred} {w:World} {K:Kt}
theorem T.Sr {σ:Type} {c:Code} (Lf:σ→Sl) (df:σ→List Deferred) (I:σ→World→Prop) (m:σ→Nat) (s0:σ) (hL:Sub (Lf s0) L) (hd:df s0=ds) (h0:I s0 w)
  (round:∀s w,I s w→T P r n c (Lf s) (df s) w (so (fun L' j9 w'=>∃s',j9=df s'∧Sub (Lf s') L'∧I s' w'∧m s'<m s) K)):T P r n (.loop c) L ds w K:=by
 classical
 refine⟨fun a ha=>?_⟩;subst hd
 let J:σ→Act→World→Prop:=fun s a w=>fG n a (Lf s) (df s)∧I s w
 let μ:Act→World→Nat:=fun a w=>if h:∃s,J s a w then m (Classical.choose (least m (J · a w) h))else 0
 refine wpIn_loop (fun a w=>∃s,J s a w) μ ⟨s0,ha.sub hL,h0⟩ ?_;rintro a w hJ;have hc:=Classical.choose_spec (least m (J · a w) hJ);have hμ:μ a w=m (Classical.choose (least m (J · a w) hJ)):=by simp only[μ];rw[dif_pos hJ]
 rw[hμ];generalize Classical.choose (least m (J · a w) hJ)=s at hc;obtain⟨⟨hs,hi⟩,_⟩:=hc;refine wpIn_mono ((round s w hi).run a hs) ?_;rintro e a' w' ⟨L',j9,lP,hK⟩
 cases e with
 |normal=>
  obtain⟨s',rfl,Et,fJ,dy⟩:=hK;have HR:∃s,J s a' w':=⟨s',lP.sub Et,fJ⟩;refine⟨HR,?_⟩;have h2:=(Classical.choose_spec (least m (J · a' w') HR)).2 s' ⟨lP.sub Et,fJ⟩;simp only[μ];rw[dif_pos HR];omega
 |exit id=>exact⟨L',j9,lP,hK⟩
 |goto id=>exact⟨L',j9,lP,hK⟩
 |ret=>exact⟨L',j9,lP,hK⟩
 |panic c=>exact⟨L',j9,lP,hK⟩
 |outgrown=>exact⟨L',j9,lP,hK⟩
structure fA (M:az) (w:World) (base:Nat) (Ds:List Nat):Prop where
 nd:Ds.Nodup
 at_:∀D∈Ds,w.heap[D]? =some (.deferred (some []))∧M D∧base≤D
theorem fA.nil (M:az) (w:World) (base:Nat):fA M w base []:=⟨List.Pairwise.nil,fun D h=>absurd h (List.not_mem_nil)⟩
theorem fA.cons {M:az} {base D:Nat} {Ds:List Nat} (h:fA M w base Ds) (h1:D∉Ds) (h2:w.heap[D]? =some (.deferred (some []))) (h3:M D) (h4:base≤D):fA M w base (D::Ds):=
 ⟨sm.2 ⟨h1,h.nd⟩,fun E hE=>by
  rcases dm.1 hE with rfl|hE
  ·exact⟨h2,h3,h4⟩
  ·exact h.at_ E hE⟩
theorem fA.step {M M' N:az} {w':World} {base:Nat} {Ds:List Nat} (h:fA M w base Ds) (s:Step M w M' w' N) (hN:∀b,N b→w.heap[b]? ≠some (.deferred (some []))):fA M' w' base Ds:=
 ⟨h.nd,fun D hD=>by
  obtain⟨h1,h2,h3⟩:=h.at_ D hD;exact⟨s.bE h1 (fun hn=>hN D hn h1),(s.mem _ (ak h1)).2 h2,h3⟩⟩
theorem fA.run {M:az} {base:Nat}:∀{Ds:List Nat} {w:World},fA M w base Ds→∃w',Marks P (Ds.map mark) w w'∧Step M w M w' (fun b=>M b∧base≤b∧w.heap[b]? =some (.deferred (some [])))
 |[],w,_=>⟨w,rfl,(an _ _).ca (fun _ h=>h.elim) (fun _ h=>h.1)⟩
 |D::Ds,w,h=>by
  obtain⟨h1,h2,h3⟩:=h.at_ D (by simp);have mS:=sm.1 h.nd;have sE:Step M w M (w.putObj D (.deferred none)) (fun k=>k=D):=⟨fun h k hk=>by simpa[World.putObj]using h k hk,rfl,rfl,rfl,by simp[World.putObj],fun _ _=>Iff.rfl,fun k _ hn=>World.putObj_heap_other (fun e=>hn e),fun k hk=>by subst hk;exact h2⟩
  have h':fA M (w.putObj D (.deferred none)) base Ds:=⟨mS.2,fun E hE=>by
   obtain⟨q1,q2,q3⟩:=h.at_ E (by simp[hE]);exact⟨sE.bE q1 (fun(e:E=D)=>mS.1 (by rw[←e];exact hE)),q2,q3⟩⟩
  obtain⟨w',hm,s⟩:=fA.run h';refine⟨w',⟨D,_,rfl,run_takeDeferred h1,hm⟩,(sE.ca (fun b hb=>by subst hb;exact⟨h2,h3,h1⟩) (fun b hb=>hb.1)).trans s (fun b hb ⟨q1,q2,q3⟩=>?_)⟩;by_cases e:b=D
  ·subst e;exact⟨h2,h3,h1⟩
  ·exact⟨q1,q2,by rw[←sE.same b hb e];exact q3⟩
theorem NX {fn:Func} {Q:Value→World→Prop} {M:az} {base t:Nat} {v:Value} {Ds:List Nat} (hr:fn.results= #[.tmp t]) (hv:lk L t=some v) (hD:fA M w base Ds) (h:∀w',Step M w M w' (fun b=>M b∧base≤b∧w.heap[b]? =some (.deferred (some [])))→Q v w'):
  yF P fn Q .ret L (Ds.map mark) w:=by
 obtain⟨w',hm,s⟩:=hD.run (P:=P);exact⟨w',hm,fun a ha=>⟨v,by simp[results,hr,ha t v hv],h w' s⟩⟩
end
end Go.K
namespace Go.K
open Go.Proofs
set_option maxRecDepth 10000
structure Hy (X K:az→World→Prop) (M:az) (w0:World) (Ds:List Nat) (D:Nat) (st:Loop) (M':az) (w:World):Prop where
 lt:Lt M' w
 S:Step M w0 M' w aA
 r:w.heap[D+1]? =some (.loop st)
 mr:M' (D+1)
 d:w.heap[D]? =some (.deferred (some []))
 md:M' D
 x:X M' w
 k:K M' w
 ms:fA M' w w0.heap.size Ds
 z:w0.heap.size≤D
 dn:D∉Ds
section
variable {X X' K:az→World→Prop} {M M1 M2 N:az} {w0 w w':World} {Ds:List Nat} {D:Nat} {st:Loop} {C:TypeId}
def CT (C:TypeId) (X:az→World→Prop):Prop:=∀{M w M' w' N},X M w→Step M w M' w' N→(∀b,N b→∀cs t fr,w.heap[b]? =some (.cells cs t fr)→t=C)→X M' w'
theorem Hy.Ss (hK:∀{M w M' w'},K M w→Le M w M' w'→K M' w') (h:Hy X K M w0 Ds D st M1 w) (s:Step M1 w M2 w' N) (hb:∀b,N b→w0.heap.size≤b) (hc:∀b,N b→b<w.heap.size→∃cs t fr,w.heap[b]? =some (.cells cs t fr)) (x:X' M2 w'):Hy X' K M w0 Ds D st M2 w':=by
 have n1: ¬N (D+1):=fun hn=>by obtain⟨cs,t,fr,hq⟩:=hc _ hn (ak h.r);rw[h.r]at hq;cases hq
 have n2: ¬N D:=fun hn=>by obtain⟨cs,t,fr,hq⟩:=hc _ hn (ak h.d);rw[h.d]at hq;cases hq
 exact⟨s.lt h.lt,h.S.cx s hb,s.bE h.r n1,(s.mem _ (ak h.r)).2 h.mr,s.bE h.d n2,(s.mem _ (ak h.d)).2 h.md,x,hK h.k s.le,h.ms.step s (fun b hn hq=>by obtain⟨cs,t,fr,hq'⟩:=hc b hn (ak hq);rw[hq]at hq';cases hq'),h.z,h.dn⟩
theorem Hy.Hl (hK:∀{M w M' w'},K M w→Le M w M' w'→K M' w') (hX:CT C X) (h:Hy X K M w0 Ds D st M1 w) (s:Step M1 w M2 w' N) (hN:∀b,N b→w0.heap.size≤b∧(b<w.heap.size→∃cs,w.heap[b]? =some (.cells cs C (0,0)))):Hy X K M w0 Ds D st M2 w':=
 h.Ss hK s (fun b hb=>(hN b hb).1) (fun b hb hl=>by obtain⟨cs,hc⟩:=(hN b hb).2 hl;exact⟨_,_,_,hc⟩) (hX h.x s (fun b hb cs t fr hc=>by
  obtain⟨EN,yp⟩:=(hN b hb).2 (ak hc);rw[hc]at yp;injection yp with yp;injection yp))
theorem Hy.mN (hK:∀{M w M' w'},K M w→Le M w M' w'→K M' w') (hX:CT C X) {st':Loop} (h:Hy X K M w0 Ds D st M1 w):Hy X K M w0 Ds D st' M1 (w.putObj (D+1) (.loop st')):=by
 have s:Step M1 w M1 (w.putObj (D+1) (.loop st')) (fun k=>k=D+1):=dK h.mr;have z:=h.z;refine⟨s.lt h.lt,h.S.cx s (fun k (hk:k=D+1)=>by omega),World.putObj_heap_same (ak h.r),h.mr,s.bE h.d (fun(hn:D=D+1)=>by omega),h.md,hX h.x s (fun b (hb:b=D+1) cs t fr hc=>?_),hK h.k s.le,h.ms.step s (fun b (hb:b=D+1) hc=>?_),h.z,h.dn⟩
 ·rw[hb,h.r]at hc;cases hc
 ·rw[hb,h.r]at hc;cases hc
end
theorem Zk {X K:az→World→Prop} {C:TypeId} {M M1:az} {w0 w:World} {Ds:List Nat} {st:Loop} (hK:∀{M w M' w'},K M w→Le M w M' w'→K M' w') (hX:CT C X) (hM:Lt M1 w) (S:Step M w0 M1 w aA) (hx:X M1 w) (hk:K M1 w) (hd:fA M1 w w0.heap.size Ds):
  ∃M',Hy X K M w0 Ds w.heap.size st M' ((w.alloc (.deferred (some []))).alloc (.loop st)):=by
 have sA:Step M1 w (ins M1 w.heap.size) (w.alloc (.deferred (some []))) aA:=(cU M1 w _).own (a8 _) (by simp);have sB:Step (ins M1 w.heap.size) (w.alloc (.deferred (some []))) (ins (ins M1 w.heap.size) (w.heap.size+1)) ((w.alloc (.deferred (some []))).alloc (.loop st)) aA:=(cU _ _ _).own (by simp) (by simp);have hD:(w.alloc (.deferred (some []))).heap[w.heap.size]? =some (.deferred (some [])):=cu w _;have hR:((w.alloc (.deferred (some []))).alloc (.loop st)).heap[w.heap.size+1]? =some (.loop st):=by have:=cu (w.alloc (.deferred (some []))) (.loop st);rwa [World.size_alloc]at this
 exact⟨_,sB.lt (sA.lt hM),(S.ax sA).ax sB,hR,.inl rfl,sB.aG hD,.inr (.inl rfl),hX (hX hx sA (fun b h=>h.elim)) sB (fun b h=>h.elim),hK (hK hk sA.le) sB.le,(hd.step sA (fun b h=>h.elim)).step sB (fun b h=>h.elim),S.size,fun hn=>by have:=ak (hd.at_ _ hn).1;omega⟩
def lh (n b7 os ow:Nat) (P:Nat→Bool) (M:az) (w:World):Prop:=w.heap[b7]? =some (.cells #[.pointer (some ⟨os,0,none⟩)] 88 (0,0))∧M b7∧∃ws,fR 161 165 n ws M w os ow∧∀j,bit ws j=P j
theorem lh.kept {n b7 os ow:Nat} {P:Nat→Bool}:CT 216 (lh n b7 os ow P):=fun⟨g,m,ws,hs,hp⟩ s hN=>by
 refine⟨s.bE g (fun hn=>absurd (hN _ hn _ _ _ g) (by decide)),(s.mem _ (ak g)).2 m,ws,hs.step s (fun hn=>absurd (hN _ hn _ _ _ hs.s) (by decide)) (fun hn=>absurd (hN _ hn _ _ _ hs.w) (by decide)),hp⟩
theorem lh.eq {n b7 os ow:Nat} {P Q:Nat→Bool} {M:az} {w:World} (h:lh n b7 os ow P M w) (e:∀j,P j=Q j):lh n b7 os ow Q M w:=⟨h.1,h.2.1,h.2.2.choose,h.2.2.choose_spec.1,fun j=>(h.2.2.choose_spec.2 j).trans (e j)⟩
theorem lh.cut {n b7 os ow:Nat} {P:Nat→Bool} {M:az} {w w':World} {rp:List Nat} {i:Int} (h:lh n b7 os ow P M w) (hs:fR 161 165 n rp M w' os ow) (s:Step M w M w' (fun b=>b=ow)) (how:∃ws,w.heap[ow]? =some (.cells (l1 ws) 165 (0,0))) (hb:∀j:Nat,bit rp j=(P j&&decide ((j:Int)≠i))):lh n b7 os ow (fun j=>P j&&decide ((j:Int)≠i)) M w':=by
 obtain⟨g,m,_⟩:=h;obtain⟨ws,hw⟩:=how;exact⟨s.bE g (fun(e:b7=ow)=>by rw[e,hw]at g;injection g with g;injection g with _ g;exact absurd g (by decide)),m,rp,hs,hb⟩
end Go.K
namespace Go.K
open Go.Proofs
namespace TKLiveB
theorem qS:TI Tryz.prog 51 (.agg #[(.string ⟨#[]⟩),(.string ⟨#[]⟩),(.int .i64 0)]) 3 40:=by unfold TI;kernel_rfl
theorem I88:TI Tryz.prog 88 (.pointer none) 1 8:=by unfold TI;kernel_rfl
theorem YW:Enters Tryz.prog 67:=enters Tryz.func67 rfl (by decide)
theorem TE:Enters Tryz.prog 70:=enters Tryz.func70 rfl (by decide)
theorem YK:Enters Tryz.prog 72:=enters Tryz.func72 rfl (by decide)
theorem Zl:Enters Tryz.prog 101:=enters Tryz.func101 rfl (by decide)
theorem St:Enters Tryz.prog 102:=enters Tryz.func102 rfl (by decide)
theorem NJ:Enters Tryz.prog 122:=enters Tryz.func122 rfl (by decide)
end TKLiveB
open TKLiveB
set_option maxRecDepth 10000
abbrev qU (s:Se) (ls:List (List Po)) (e:Er):List Int:=mF (lM s.2.2.1 ls (dd e.1)) s.2.1 e.2
def p6 (n:Nat) (s:Se) (ls:List (List Po)) (upto:Int) (es:List Er) (j:Nat):Bool:=decide (j<n)&&decide (xW s.2.1 j<upto)&& !(es.any fun e=>decide (e.2<upto)&&decide ((j:Int)∈qU s ls e))
theorem wO {n:Nat} {s:Se} {ls:List (List Po)} {upto:Int} {es:List Er} {e:Er} (j:Nat):p6 n s ls upto (es++[e]) j=(p6 n s ls upto es j&& !(decide (e.2<upto)&&decide ((j:Int)∈qU s ls e))):=by
 unfold p6;rw[List.any_append];simp only[List.any_cons,List.any_nil,Bool.or_false,Bool.not_or,Bool.and_assoc]
theorem p8 {n:Nat} {s:Se} {ls:List (List Po)} {upto:Int} {es:List Er} {j:Nat} (h:p6 n s ls upto es j=true):j<n:=by
 unfold p6 at h;simp only[bC,decide_eq_true_eq]at h;exact h.1.1
def rV (n:Nat) (s:Se) (upto:Int) (i j:Nat):Bool:=decide (j<n)&&(decide (i≤j)||decide (xW s.2.1 j<upto))
theorem JF {n:Nat} {s:Se} {upto:Int} {i:Nat} (h:upto≤xW s.2.1 (i:Int)) (j:Nat):(rV n s upto i j&&decide ((j:Int)≠(i:Int)))=rV n s upto (i+1) j:=by
 unfold rV;by_cases e:j=i
 ·subst e;rw[decide_eq_false (show¬(j:Int)≠(j:Int)from fun h=>h rfl),decide_eq_false (show¬j+1≤j by omega),decide_eq_false (show¬xW s.2.1 (j:Int)<upto by omega)];simp
 ·rw[decide_eq_true (show(j:Int)≠(i:Int) by omega),iG];congr 2;exact decide_eq_decide.2 (by omega)
theorem Hz {n:Nat} {s:Se} {upto:Int} {i:Nat} (h: ¬upto≤xW s.2.1 (i:Int)) (j:Nat):rV n s upto i j=rV n s upto (i+1) j:=by
 unfold rV;by_cases e:j=i
 ·subst e;rw[decide_eq_true (show xW s.2.1 (j:Int)<upto by omega)];simp
 ·congr 2;exact decide_eq_decide.2 (by omega)
theorem JG {n:Nat} {s:Se} {ls:List (List Po)} {upto:Int} (j:Nat):rV n s upto n j=p6 n s ls upto [] j:=by
 unfold rV p6;by_cases h:j<n
 ·rw[decide_eq_false (show¬n≤j by omega)];simp
 ·rw[decide_eq_false h];simp
abbrev NY (bs:Nat) (v0:Value) (s:Se) (u:Value) (e:Er):az→World→Prop:=fun M w=>w.heap[bs]? =some (.cells #[v0] 25 (0,0))∧¬M bs∧ch RT.se M w v0 s∧ch RT.er M w u e
abbrev Ar (bs:Nat) (v0:Value) (s:Se) (u:Value) (e:Er) (es:List Er) (ve:Value):az→World→Prop:=fun M w=>NY bs v0 s u e M w∧(RT.er.sl).V M w es ve
theorem iw {bs:Nat} {v0 u ve:Value} {s:Se} {e:Er} {es:List Er} {M M':az} {w w':World} (h:Ar bs v0 s u e es ve M w) (l:Le M w M' w'):Ar bs v0 s u e es ve M' w':=⟨nI h.1 l,h.2.le l⟩
def vB (n:Nat) (s:Se) (ls:List (List Po)) (upto:Int) (es:List Er) (e:Er) (i j:Nat):Bool:=p6 n s ls upto es j&& !decide ((j:Int)∈(qU s ls e).take i)
theorem JH {n:Nat} {s:Se} {ls:List (List Po)} {upto:Int} {es:List Er} {e:Er} {i:Nat} {x:Int} (h:(qU s ls e)[i]? =some x) (j:Nat):(vB n s ls upto es e i j&&decide ((j:Int)≠x))=vB n s ls upto es e (i+1) j:=by
 unfold vB;rw[cr,h,cY,Bool.and_assoc];congr 1;by_cases h1:(j:Int)∈(qU s ls e).take i<;>by_cases h2:(j:Int)=x<;>simp[h1,h2]
theorem JI {n:Nat} {s:Se} {ls:List (List Po)} {upto:Int} {es:List Er} {e:Er} (he:e.2<upto) (j:Nat):vB n s ls upto es e (qU s ls e).length j=p6 n s ls upto (es++[e]) j:=by
 unfold vB;rw[wO,bI (a8 _),decide_eq_true he,dx]
theorem NZ {n:Nat} {s:Se} {ls:List (List Po)} {upto:Int} {es:List Er} {e:Er} {i j:Nat} (h:vB n s ls upto es e i j=true):j<n:=by
 unfold vB at h;rw[bC]at h;exact p8 h.1
theorem nV {M:az} {s:Se} {ls:List (List Po)} {es:List Er} {upto:Int} {v0 ve:Value} (w0:World) (hM:Lt M w0) (hs:ch RT.se M w0 v0 s) (xY:xM s.2.2.1) (Ej:s.2.2.2=ls.map hU) (Jv:s.2.2.1.length=ls.length) (hn:s.1.length≤1000000) (he:(RT.er.sl).V M w0 es ve) (yr:es.length≤1000000) (yo:∀e∈es,Jw (lM s.2.2.1 ls (dd e.1))):
  Spec Tryz.prog 48 #[v0,ve,.int .i64 upto] w0 (fun v w=>∃os ow ws M',v= .pointer (some ⟨os,0,none⟩)∧w0.heap.size≤os∧w0.heap.size≤ow∧Step M w0 M' w aA∧fR 161 165 s.1.length ws M' w os ow∧∀j,bit ws j=p6 s.1.length s ls upto es j):=by
 have ku:=hM;refine nc (args:=[_,_,_]) (fn:=Tryz.f48) Tryz.func48 rfl (n:=48) Tryz.ntmps48 ?_;have S:Step M w0 M w0 aA:=(an _ _).ca (fun _ h=>h.elim) (fun _ h=>h.elim);refine aj (ah (ai rfl rfl (ad (aj (ah (ae rfl rfl ?_))))));refine aM rfl rfl YW (wH _ hs) (fun r wc hc=>?_);obtain⟨rfl,hw⟩:=hc;obtain rfl:w0=wc:=hw.symm;refine aM rfl rfl Zl (D7 (M:=M) (n:=s.1.length) (by omega)) (fun r2 w2 hc=>?_);obtain⟨os,ow,ws,M2,rfl,z1,z2,s2,o3,As⟩:=hc;replace hs:=hs.le (by decide) s2.le;replace he:=he.le s2.le;replace hM:=s2.lt hM;have:=S.size;replace S:=S.ax s2;refine ff M2 I88 rfl (fun jW xA Qe Qf gm s1_3=>?_);obtain⟨jv,ny⟩:∃M',M'=ins M2 jW:=⟨_,rfl⟩;rw[←ny]at s1_3;have fk:jv jW:=by rw[ny];exact .inl rfl
 change xA.heap[jW]? =some (.cells #[.pointer none] _ _)at gm;replace hs:=hs.le (by decide) s1_3.le;replace he:=he.le s1_3.le;replace hM:=s1_3.lt hM;have:=S.size;replace S:=S.ax s1_3;refine bP (M:=jv) I88 rfl rfl gm rfl (rfl) fk (fun Iv BH ia=>?_)
 try simp only[List.setIfInBounds_toArray,List.set_cons_zero,List.set_cons_succ]at BH
 have:=ak gm;replace fk:=(ia.mem _ this).2 fk;replace hs:=hs.le (by decide) ia.le;replace he:=he.le ia.le;replace hM:=ia.lt hM;have:=S.size;replace S:=S.trans ia (fun k hk h=>by have h:_=_:=h;subst h;first|(exfalso;omega)|(show _≤_;omega)|exact⟨by first|omega|assumption,(S.mem _ hk).1 ((ia.mem _ (ak gm)).1 fk)⟩|exact .inl rfl|exact .inr rfl|exact .inr (.inl rfl)|exact .inr (.inr rfl)|exact rfl);have rv:=BH;clear gm;have gm:=rv;clear rv;refine ad (aj (aj (ah (ae rfl rfl ?_))));refine aM rfl rfl YW (wH _ hs) (fun r wc hc=>?_);obtain⟨rfl,rfl⟩:=hc;refine ae rfl rfl (ad (bj ?_));refine dI (σ:=Nat) (fun i=>[(0,v0),(1,ve),(2,.int .i64 upto),(7,.pointer (some ⟨jW,0,none⟩)),(16,.int .i64 (s.1.length:Int)),(17,.int .i64 (i:Int))]) (fun i w=>∃M1,Lt M1 w∧Step M w0 M1 w aA∧lh s.1.length jW os ow (rV s.1.length s upto i) M1 w∧ch RT.se M1 w v0 s∧(RT.er.sl).V M1 w es ve∧i≤s.1.length) (fun i=>s.1.length-i) 0 (.cons rfl (.cons rfl (.cons rfl (.cons rfl (.cons rfl (.cons rfl .nil)))))) ?_ ?_
 ·exact⟨_,hM,S,⟨gm,fk,ws,(o3.step s1_3 (fun h=>h) (fun h=>h)).step ia (fun(h:os=jW)=>by have:=ak o3.s;omega) (fun(h:ow=jW)=>by have:=ak o3.w;omega),fun j=>by rw[As j];unfold rV;simp⟩,hs,he,bH _⟩
 ·clear S hs he hM gm fk;rintro i w ⟨M1,hM,S,hx,hs,he,hi⟩;refine aj (ah (cf rfl rfl rfl (ad (aj ?_))));refine bF rfl (fun c3=>?_) (fun c3=>?_)
  ·refine aU (aj (bj (aj (ah (ae rfl rfl (ai rfl rfl (ad (aj (ah (ae rfl rfl (ae rfl rfl ?_)))))))))));refine aM rfl rfl TE (wI _ hs) (fun r wc hc=>?_);obtain⟨rfl,rfl⟩:=hc;refine ae rfl rfl (dA rfl rfl rfl (ad ?_));refine bF rfl (fun c5=>?_) (fun c5=>?_)
   ·refine ah ?_;obtain⟨g7,m7,wsi,o3,As⟩:=hx;refine aE iS rfl rfl rfl g7 rfl (bp (v':= .pointer (some ⟨os,0,none⟩)) rfl (ae rfl rfl ?_));refine aM rfl rfl St (Ao o3 (i:=(i:Int)) (fun j hj=>by rw[As j]at hj;unfold rV at hj;simp only[bC,decide_eq_true_eq]at hj;exact hj.1)) (fun r6 w6 hc=>?_);obtain⟨rp,HA,yq,s6⟩:=hc;have hx:=lh.cut (P:=rV s.1.length s upto i) ⟨g7,m7,wsi,o3,As⟩ HA s6 ⟨_,o3.w⟩ (fun j=>by rw[yq j,As j]);replace hs:=hs.le (by decide) s6.le;replace he:=he.le s6.le;replace S:=S.cx s6 (fun b (hb:b=ow)=>by omega);replace hM:=s6.lt hM;refine ad (ah (bz rfl rfl rfl (by omega) (ae rfl rfl (ad ?_))));refine⟨rfl,i+1,(.cons rfl (.cons rfl (.cons rfl (.cons rfl (.cons rfl (.cons rfl .nil)))))),?_,?_⟩
    ·exact⟨M1,hM,S,hx.eq (JF c5),hs,he,by omega⟩
    ·omega
   ·refine aU (ah (bz rfl rfl rfl (by omega) (ae rfl rfl (ad ?_))));refine⟨rfl,i+1,(.cons rfl (.cons rfl (.cons rfl (.cons rfl (.cons rfl (.cons rfl .nil)))))),?_,?_⟩
    ·exact⟨M1,hM,S,hx.eq (Hz c5),hs,he,by omega⟩
    ·omega
  ·refine cM (aj (aj (ah (ae rfl rfl (bU dH rfl he rfl (ae rfl rfl (ad (bj ?_))))))));obtain rfl:i=s.1.length:=by omega
   replace hx:=hx.eq (JG (ls:=ls));refine T.Sr (σ:=Nat×List Nat) (fun q=>[(0,v0),(2,.int .i64 upto),(7,.pointer (some ⟨jW,0,none⟩)),(29,ve),(30,.int .i64 (es.length:Int)),(31,.int .i64 (q.1:Int))]) (fun q=>q.2.map mark) (fun q w=>∃M1,Lt M1 w∧Step M w0 M1 w aA∧lh s.1.length jW os ow (p6 s.1.length s ls upto (es.take q.1)) M1 w∧ch RT.se M1 w v0 s∧(RT.er.sl).V M1 w es ve∧fA M1 w w0.heap.size q.2∧q.1≤es.length) (fun q=>es.length-q.1) (0,[]) (.cons rfl (.cons rfl (.cons rfl (.cons rfl (.cons rfl (.cons rfl .nil)))))) rfl ?_ ?_
   ·exact⟨_,hM,S,hx,hs,he,fA.nil _ _ _,bH _⟩
   ·clear S hs he hM hx;rintro⟨k,Ds⟩ w ⟨M1,hM,S,hx,hs,he,KJ,hk⟩;dsimp only at hx KJ hk ⊢;refine aj (ah (cf rfl rfl rfl (ad (aj ?_))));refine bF rfl (fun c9=>?_) (fun c9=>?_)
    ·refine aU (aj (bj (aj (ah ?_))));obtain⟨e,yg⟩:∃e,es[k]? =some e:=⟨_,aL (by omega)⟩;refine dq (M:=M1) dH qS rfl rfl rfl he (aq _ _) (by omega) (fun ago e' Su Sv=>?_);rw[aC]at Su;obtain rfl:=bQ (yg.symm.trans Su);refine cw (M:=M1) (A:=RT.er) dG rfl qS (by decide) rfl rfl rfl Sv (aq _ _) (fun agp hve=>?_);have Zm:=hve;obtain⟨rfl,⟨yb,vv⟩,agr⟩:=BR Zm;refine oH (A:=RT.er) (M:=M1) qS rfl rfl rfl rfl rfl (by assumption) (aq _ _) hM (fun Rw Rx qR pS Ry=>?_);replace hs:=hs.le (by decide) pS.le;replace he:=he.le pS.le;replace hM:=pS.lt hM;have:=S.size;replace S:=S.ax pS;refine ad (aj (aj (ah ?_)));replace hx:=lh.kept hx pS (fun b h=>h.elim);replace KJ:=KJ.step pS (fun b h=>h.elim);refine aJ (M:=M1) (A:=RT.er) (B:=RT.int .i64) dG rfl rfl I3 (by decide) YG rfl rfl (by decide) qR (aq _ _) (fun ags Sw=>?_);refine cd (M:=M1) ar rfl rfl Sw (aq _ _) (fun hez=>?_);refine bp (v':= .int .i64 e.2) rfl (ae rfl rfl (dA rfl rfl rfl (ad ?_)));refine bF rfl (fun E8=>?_) (fun E8=>?_)
     ·refine cM (ah (bz rfl rfl rfl (by omega) (ae rfl rfl (ad ?_))));refine⟨(k+1,Ds),rfl,(.cons rfl (.cons rfl (.cons rfl (.cons rfl (.cons rfl (.cons rfl .nil)))))),?_,?_⟩
      ·exact⟨_,hM,S,hx.eq (fun j=>by dsimp only;rw[cr,yg,cY,wO,decide_eq_false (show¬e.2<upto by omega)];simp),hs,he,KJ,by dsimp only;omega⟩
      ·dsimp only;omega
     ·refine aU (aj (ah (ae rfl rfl ?_)));refine cw (M:=M1) (A:=RT.er) dG rfl qS (by decide) rfl rfl rfl qR (aq _ _) (fun agt Sx=>?_);refine aM rfl rfl YK (ud _ hM hs Sx) (fun Td Fq hc=>?_);obtain⟨bs,u,rfl,F2,hu,TA,kL⟩:=hc;have YP:Ar bs v0 s u e es ve M1 Fq:=⟨⟨F2,fun h=>by have:=hM _ h;omega,hs.le (by decide) kL.le,hu⟩,he.le kL.le⟩;replace hx:=lh.kept hx kL (fun b h=>h.elim);replace KJ:=KJ.step kL (fun b h=>h.elim);replace hs:=hs.le (by decide) kL.le;replace he:=he.le kL.le;replace qR:=qR.le (by decide) kL.le;replace hM:=kL.lt hM;have:=S.size;replace S:=S.ax kL;refine ad (bj ?_);refine T.range (gf:=122) (lb:=[.pointer (some ⟨bs,0,none⟩),u].toArray) rfl NJ (fun rec na=>?_);obtain⟨D,hD⟩:∃D,D=Fq.heap.size:=⟨_,rfl⟩;obtain⟨Mr,h0⟩:=Zk (X:=lh s.1.length jW os ow (vB s.1.length s ls upto (es.take k) e 0)) (K:=Ar bs v0 s u e es ve) (C:=216) (st:=rec .ready none) iw lh.kept hM S (hx.eq (fun j=>by unfold vB;simp)) YP KJ;rw[←hD]at na h0 ⊢;refine Spec.mono (rL (ls:=ls) (u:=u) xY Ej Jv (yo e (aN yg)) yb vv (M:=Mr) (J:=fun i M' w=>Hy (lh s.1.length jW os ow (vB s.1.length s ls upto (es.take k) e i)) (Ar bs v0 s u e es ve) M w0 Ds D (rec .ready none) M' w) (Jx:=fun _=>False) _ (fun i M' w h=>⟨h.lt,h.k.1⟩) (fun i M' w M2 w2 N h s hN=>h.Hl iw lh.kept s (fun b hb=>⟨by have h1:=(hN b hb).1;have h2:=h.z;simp at h1;omega,(hN b hb).2⟩)) (fun i M' wr x h JO=>?_) h0) (fun _ w3 h3=>?_)
      ·refine lx (ps:=[42]) (vs:=[.int .i64 x]) na h.r rfl (by decide) (ah (ai rfl rfl (ad ?_)));refine⟨rfl,h.r,?_⟩;have h4:=h.mN iw lh.kept (st':=rec .busy none);have s4:Step M' wr M' (wr.putObj (D+1) (.loop (rec .busy none))) (fun k=>k=D+1):=dK h.mr;generalize wr.putObj (D+1) _=w4 at h4 s4 ⊢;refine bj (ah ?_);obtain⟨g7,m7,wsi,o3,As⟩:=h4.x;refine aE iS rfl rfl rfl g7 rfl (bp (v':= .pointer (some ⟨os,0,none⟩)) rfl (ae rfl rfl ?_));refine aM rfl rfl St (Ao o3 (i:=x) (fun j hj=>by rw[As j]at hj;exact NZ hj)) (fun r5 w5 hc=>?_);obtain⟨rp,HA,yq,s5⟩:=hc;refine ad ?_;have x5:=lh.cut h4.x HA s5 ⟨_,o3.w⟩ (fun j=>by rw[yq j,As j]);have h5:=h4.Ss iw s5 (fun b (hb:b=ow)=>by omega) (fun b (hb:b=ow) _=>by rw[hb];exact⟨_,_,_,o3.w⟩) (x5.eq (JH JO));have h8:=h5.mN iw lh.kept (st':=rec .ready none);have s8:=dK (w:=w5) (o:= .loop (rec .ready none)) h5.mr;refine⟨h5.r,true,rfl,fun _=>⟨M',fun b=>b=D+1∨b=ow,h8,((s4.ca (fun b hb=> .inl hb) (fun b hb=>?_)).trans s5 (fun b _ hb=> .inr hb)).trans s8 (fun b _ hb=> .inl hb),fun b hb cs hc=>?_⟩,fun h=>by cases h⟩
       ·obtain⟨_,_,wz,hz,_⟩:=h.x;rcases hb with rfl|rfl
        ·exact h.mr
        ·exact hz.mw
       ·obtain⟨_,_,wz,hz,_⟩:=h.x;rcases hb with rfl|rfl
        ·rw[h.r]at hc;cases hc
        ·rw[hz.w]at hc;injection hc with hc;injection hc with _ hc;exact absurd hc (by decide)
      ·obtain⟨M',h⟩:=h3.resolve_right id;left;refine⟨h.r,?_⟩;have h5:=h.mN iw lh.kept (st':=rec .exhausted none);generalize w3.putObj (D+1) _=wE at h5 ⊢;refine ah (bz rfl rfl rfl (by omega) (ae rfl rfl (ad ?_)));refine⟨(k+1,D::Ds),rfl,(.cons rfl (.cons rfl (.cons rfl (.cons rfl (.cons rfl (.cons rfl .nil)))))),?_,?_⟩
       ·exact⟨_,h5.lt,h5.S,h5.x.eq (fun j=>by dsimp only;rw[cr,yg,cY];exact JI (by omega) j),h5.k.1.2.2.1,h5.k.2,h5.ms.cons h5.dn h5.d h5.md h5.z,by dsimp only;omega⟩
       ·dsimp only;omega
    ·refine cM (aj (ah ?_));obtain⟨g7,m7,wsf,o3,Sy⟩:=hx;refine aE iS rfl rfl rfl g7 rfl (bp (v':= .pointer (some ⟨os,0,none⟩)) rfl (ai rfl rfl (ad (aH ?_))));exact NX rfl rfl KJ (fun w' s'=>⟨os,ow,wsf,M1,rfl,by omega,by omega,S.cx s' (fun b hb=>hb.2.1),o3.step s' (fun hn=>by have:=hn.2.2;rw[o3.s]at this;cases this) (fun hn=>by have:=hn.2.2;rw[o3.w]at this;cases this),fun j=>by rw[Sy j,bI (by omega)]⟩)
end Go.K
namespace Go.K
open Go.Proofs
namespace TKLater
theorem qS:TI Tryz.prog 51 (.agg #[(.string ⟨#[]⟩),(.string ⟨#[]⟩),(.int .i64 0)]) 3 40:=by unfold TI;kernel_rfl
theorem OG:placesOf Tryz.prog 51=[(0,2),(2,1)].map some:=by kernel_rfl
theorem OF:Enters Tryz.prog 15:=enters Tryz.func15 rfl (by decide)
theorem Zn:Enters Tryz.prog 21:=enters Tryz.func21 rfl (by decide)
theorem E24:Enters Tryz.prog 24:=enters Tryz.func24 rfl (by decide)
theorem Sz:Enters Tryz.prog 26:=enters Tryz.func26 rfl (by decide)
end TKLater
open TKLater
set_option maxRecDepth 10000
theorem yc (L:List En):(Em (iC L)).2.2.2=((keysOf L).map (pk L)).map hU:=rfl
theorem yd (L:List En):(Em (iC L)).2.2.1.length=((keysOf L).map (pk L)).length:=by rw[cN];rfl
theorem nW {L:List En} (h:Ab (-1) L=true) (hn:L.length≤1000000) (k:List UInt8):Jw (lM (Em (iC L)).2.2.1 ((keysOf L).map (pk L)) k):=by
 show Jw (lM (keysOf L) _ _);rw[BO];exact Hk (nF h) hn _
end Go.K
namespace Go.K
open Go.Proofs
namespace TKJoins15
theorem qS:TI Tryz.prog 51 (.agg #[(.string ⟨#[]⟩),(.string ⟨#[]⟩),(.int .i64 0)]) 3 40:=by unfold TI;kernel_rfl
theorem OF:Enters Tryz.prog 15:=enters Tryz.func15 rfl (by decide)
theorem Zn:Enters Tryz.prog 21:=enters Tryz.func21 rfl (by decide)
theorem Sz:Enters Tryz.prog 26:=enters Tryz.func26 rfl (by decide)
theorem SA:Enters Tryz.prog 48:=enters Tryz.func48 rfl (by decide)
theorem Zo:Enters Tryz.prog 51:=enters Tryz.func51 rfl (by decide)
theorem SB:Enters Tryz.prog 52:=enters Tryz.func52 rfl (by decide)
end TKJoins15
open TKJoins15
set_option maxRecDepth 10000
theorem qV {ws vs:List Nat} (h:∀j,bit ws j=bit vs j):∀p,low ws p=low vs p
 |0=>rfl
 |p+1=>by rw[low,low,h p,qV h p]
end Go.K
namespace Go.K
open Go.Proofs
namespace TKQueB
theorem qS:TI Tryz.prog 51 (.agg #[(.string ⟨#[]⟩),(.string ⟨#[]⟩),(.int .i64 0)]) 3 40:=by unfold TI;kernel_rfl
theorem JC:TI Tryz.prog 75 (.slice none 0 0) 1 24:=by unfold TI;kernel_rfl
theorem E88:Enters Tryz.prog 88:=enters Tryz.func88 rfl (by decide)
theorem E89:Enters Tryz.prog 89:=enters Tryz.func89 rfl (by decide)
theorem Zp:Enters Tryz.prog 135:=enters Tryz.func135 rfl (by decide)
theorem SC:Enters Tryz.prog 136:=enters Tryz.func136 rfl (by decide)
theorem Zq:Enters Tryz.prog 137:=enters Tryz.func137 rfl (by decide)
theorem Nz:Enters Tryz.prog 168:=enters Tryz.func168 rfl (by decide)
end TKQueB
open TKQueB
set_option maxRecDepth 10000
theorem KK {xs:List Er} (h:xs.Pairwise fun a b=>a.2<b.2) {i j:Nat} {x y:Er} (fZ:i≤j) (hx:xs[i]? =some x) (hy:xs[j]? =some y):x.2≤y.2:=by
 rcases dO fZ with rfl|h1
 ·rw[hx]at hy;cases hy;exact Int.le_refl _
 ·have:=fy h hx hy h1;omega
def p9 (xs:List Er) (t:Int):Nat:=xs.countP fun x=>decide (x.2<t)
theorem ye (xs:List Er) (t:Int):p9 xs t≤xs.length:=List.countP_le_length
theorem Au {t:Int}:∀{xs:List Er},(xs.Pairwise fun a b=>a.2<b.2)→xs.filter (fun x=>decide (x.2<t))=xs.take (p9 xs t)∧xs.filter (fun x=>decide (t≤x.2))=xs.drop (p9 xs t)
 |[],_=>⟨rfl,rfl⟩
 |x::xs,h=>by
  obtain⟨h1,h2⟩:=gJ.1 h;obtain⟨h3,h4⟩:=Au (t:=t) h2;by_cases hx:x.2<t
  ·have e:p9 (x::xs) t=p9 xs t+1:=List.countP_cons_of_pos (by simpa using hx);rw[e,iZ (by simpa using hx),nM (by simp;omega),iR,List.drop_succ_cons,h3,h4];exact⟨rfl,rfl⟩
  ·have h0:p9 xs t=0:=List.countP_eq_zero.2 fun y hy=>by have:=h1 y hy;simp;omega
   have e:p9 (x::xs) t=0:=by unfold p9;rw[List.countP_cons_of_neg (by simpa using hx)];exact h0
   rw[e,nM (by simpa using hx),iZ (by simp;omega),h3,h4,h0];exact⟨rfl,rfl⟩
def vC (x y:Int):Int:=if x<y then-1 else if x>y then 1 else 0
theorem Av (x y:Int):(vC x y<0)↔x<y:=by unfold vC;split<;>(try split)<;>omega
theorem CU (x y:Int): -1≤vC x y∧vC x y≤1:=by unfold vC;split<;>(try split)<;>omega
theorem D8 {x y:Int} (w0:World):
  Spec Tryz.prog 137 #[.int .i64 x,.int .i64 y] w0 (fun v w=>v= .int .i64 (vC x y)∧w=w0):=by
 refine aW (args:=[_,_]) (fn:=Tryz.f137) Tryz.func137 rfl (n:=20) Tryz.ntmps137 (aj (ah (ai rfl rfl (ad (aj (ah (ae rfl rfl ?_)))))));refine aM rfl rfl Nz (rI _) (fun r wc hc=>?_);obtain⟨rfl,rfl⟩:=hc;refine ai rfl rfl (ad (aj (ah (ae rfl rfl ?_))));refine aM rfl rfl Nz (rI _) (fun r wc hc=>?_);obtain⟨rfl,rfl⟩:=hc;refine ai rfl rfl (ad (aj (aj (ah (ae rfl rfl (ad (gL rfl (aU (aj (aj (ah ?_)))))))))));refine ae rfl rfl (ad (gL rfl (aU (aj (aj (ah (ae rfl rfl (ae rfl rfl (cf rfl rfl rfl (ad ?_))))))))));refine bF rfl (fun c9=>?_) (fun c9=>?_)
 ·refine aj (ah (ai rfl rfl (ad (aH ?_))));exact aP rfl rfl ⟨by unfold vC;rw[if_pos c9],rfl⟩
 ·refine aU (aj (aj (ah (ae rfl rfl (ae rfl rfl (mG rfl rfl rfl (ad ?_)))))));refine bF rfl (fun E8=>?_) (fun E8=>?_)
  ·refine aj (ah (ai rfl rfl (ad (aH ?_))));exact aP rfl rfl ⟨by unfold vC;rw[if_neg c9,if_pos E8],rfl⟩
  ·refine aU (aj (ah (ai rfl rfl (ad (aH ?_)))));exact aP rfl rfl ⟨by unfold vC;rw[if_neg c9,if_neg E8],rfl⟩
theorem rM {M:az} {e:Er} {ve:Value} {t:Int} (w0:World) (hM:Lt M w0) (he:RT.er.V M w0 e ve):
  Spec Tryz.prog 136 #[ve,.int .i64 t] w0 (fun v w=>v= .int .i64 (vC e.2 t)∧Step M w0 M w aA):=by
 refine aW (args:=[_,_]) (fn:=Tryz.f136) Tryz.func136 rfl (n:=9) Tryz.ntmps136 ?_;have S:Step M w0 M w0 aA:=(an _ _).ca (fun _ h=>h.elim) (fun _ h=>h.elim);refine aj (ah ?_);refine jB (A:=RT.er) (a:=e) rfl rfl hM he rfl (fun u0 w1 cA s0 _=>?_);replace he:=he.le s0.le;replace hM:=s0.lt hM;have:=S.size;replace S:=S.ax s0;refine ai rfl rfl (ad (aj (ah ?_)));refine aJ (M:=M) (A:=RT.er) (B:=RT.int .i64) dG rfl rfl I3 (by decide) YG rfl rfl (by decide) cA (aq _ _) (fun u1 N6=>?_);refine cd (M:=M) ar rfl rfl N6 (aq _ _) (fun lD=>?_);refine bp (v':= .int .i64 e.2) rfl (ae rfl rfl ?_);refine aM rfl rfl Zq (D8 _) (fun r wc hc=>?_);obtain⟨rfl,rfl⟩:=hc;refine ai rfl rfl (ad (aH ?_));exact aP rfl rfl ⟨rfl,S⟩
theorem HB {M M1:az} {xs:List Er} {v0:Value} {t:Int} (w0:World) (hM:Lt M w0) (hv:(RT.er.sl).V M w0 xs v0) (hr:xs.Pairwise fun a b=>a.2<b.2):
  Spec Tryz.prog 135 #[v0,.int .i64 t,.func (.func 136) #[] #[]] w0 (fun v w=>(∃b,v= .tuple #[.int .i64 (p9 xs t:Int),.bool b])∧Step M w0 M w aA):=by
 have ku:=hM;have hlen:=ed hv;refine aW (args:=[_,_,_]) (fn:=Tryz.f135) Tryz.func135 rfl (n:=49) Tryz.ntmps135 ?_;have S:Step M w0 M w0 aA:=(an _ _).ca (fun _ h=>h.elim) (fun _ h=>h.elim);refine aj (ah (ai rfl rfl (ai rfl rfl (ad (aj (ah (ae rfl rfl (bU dH rfl hv rfl (ai rfl rfl (ad (aj ?_)))))))))));refine ah (ae rfl rfl (ai rfl rfl (ai rfl rfl (ad (aj (bj ?_))))));refine dI (σ:=Nat×Nat) (fun q=>[(0,v0),(1,.int .i64 t),(2,.func (.func 136) #[] #[]),(8,.int .i64 (xs.length:Int)),(9,.int .i64 (q.1:Int)),(10,.int .i64 (q.2:Int))]) (fun q w=>Step M w0 M w aA∧(RT.er.sl).V M w xs v0∧q.1≤q.2∧q.2≤xs.length∧(∀(k:Nat) (x:Er),k<q.1→xs[k]? =some x→x.2<t)∧(∀(k:Nat) (x:Er),q.2≤k→xs[k]? =some x→¬x.2<t)) (fun q=>q.2-q.1) (0,xs.length) (.cons rfl (.cons rfl (.cons rfl (.cons rfl (.cons rfl (.cons rfl .nil)))))) ?_ ?_
 ·exact⟨S,hv,bH _,a8 _,fun k x h=>absurd h (jQ _),fun k x h hx=>by have:=(au.1 hx).1;omega⟩
 ·clear S hv hM;rintro⟨i,j⟩ w ⟨S,hv,fZ,hj,h1,h2⟩;dsimp only at fZ hj h1 h2 ⊢;have hM:=S.lt ku;refine aj (aj (ah (ae rfl rfl (ae rfl rfl (cf rfl rfl rfl (ad ?_))))));refine bF rfl (fun c3=>?_) (fun c3=>?_)
  ·refine aU (bj (aj (ah (ae rfl rfl (ae rfl rfl (bz rfl rfl rfl (by omega) (qZ ar oF rfl rfl (bp (v':= .int .u64 ((i:Int)+j)) (congrArg _ (wrap_u64 (by omega))) (Rg.shr rfl rfl rfl (by omega) (bp (v':= .int .u64 (((i:Int)+j)/2)) (congrArg _ (Hc _)) (Rg.qm oF ar rfl rfl (by omega) ?_)))))))))));refine ai rfl rfl (ad (aj (ah (ae rfl rfl (ae rfl rfl (ae rfl rfl ?_))))));refine dq (M:=M) dH qS rfl rfl rfl hv (aq _ _) (by omega) (fun u x hg hu=>?_);rw[show(((i:Int)+j)/2).toNat=(i+j)/2 from by omega]at hg;refine cw (M:=M) (A:=RT.er) dG rfl qS (by decide) rfl rfl rfl hu (aq _ _) (fun vx qG=>?_);refine ae rfl rfl ?_;refine Rg.mV (first:=[]) (captured:=[]) (xs:=[.tmp 28,.tmp 29]) rfl rfl rfl SC (rM (t:=t) _ hM qG) (fun r6 w6 hc=>?_);obtain⟨rfl,s6⟩:=hc;have Tq:=CU x.2 t;replace hv:=hv.le s6.le;replace hM:=s6.lt hM;have:=S.size;replace S:=S.ax s6;refine cf rfl rfl rfl (ad ?_);refine bF rfl (fun c5=>?_) (fun c5=>?_)
   ·refine ah (ae rfl rfl (bz rfl rfl rfl (by omega) (ai rfl rfl (ad ?_))));refine⟨rfl,((i+j)/2+1,j),(.cons rfl (.cons rfl (.cons rfl (.cons rfl (.cons rfl (.cons rfl .nil)))))),?_,?_⟩
    ·exact⟨S,hv,by dsimp only;omega,hj,fun k y hk hy=>by have:=KK hr (show k≤(i+j)/2 by dsimp only at hk;omega) hy hg;have:=(Av x.2 t).1 c5;omega,h2⟩
    ·dsimp only;omega
   ·refine ah (ae rfl rfl (ai rfl rfl (ad ?_)));refine⟨rfl,(i,(i+j)/2),(.cons rfl (.cons rfl (.cons rfl (.cons rfl (.cons rfl (.cons rfl .nil)))))),?_,?_⟩
    ·exact⟨S,hv,by dsimp only;omega,by dsimp only;omega,h1,fun k y hk hy=>by have:=KK hr (show(i+j)/2≤k from hk) hg hy;have:=mt (Av x.2 t).2 c5;omega⟩
    ·dsimp only;omega
  ·refine cM (aj (ah (ae rfl rfl (ae rfl rfl (ae rfl rfl (cf rfl rfl rfl (ae rfl rfl ?_)))))));refine aI (g:=39) rfl (fun Zr=>?_) (fun Zr=>?_)
   ·refine al rfl rfl (ae rfl rfl (al rfl rfl (ae rfl rfl (al rfl rfl (ae rfl rfl (al rfl rfl ?_))))));refine dq (M:=M) dH qS rfl rfl rfl hv (aq _ _) (by omega) (fun u x hg hu=>?_);refine al rfl rfl ?_;refine cw (M:=M) (A:=RT.er) dG rfl qS (by decide) rfl rfl rfl hu (aq _ _) (fun vx qG=>?_);refine al rfl rfl (ae rfl rfl (al rfl rfl ?_));refine Rg.mV (first:=[]) (captured:=[]) (xs:=[.tmp 44,.tmp 45]) rfl rfl rfl SC (rM (t:=t) _ hM qG) (fun r6 w6 hc=>?_);obtain⟨rfl,s6⟩:=hc;have Tq:=CU x.2 t;replace hv:=hv.le s6.le;replace hM:=s6.lt hM;have:=S.size;replace S:=S.ax s6;refine al rfl rfl (Rg.Ay rfl rfl rfl (aQ rfl rfl rfl (ai rfl rfl (ai rfl rfl (ad (aH ?_))))));have e:p9 xs t=i:=mg (by omega) (fun k x hk hx=>by simpa using h1 k x hk hx) (fun k x hk hx=>by simpa using h2 k x (by omega) hx);exact ez rfl rfl rfl ⟨⟨_,by rw[e]⟩,S⟩
   ·refine ao rfl rfl rfl rfl (ao rfl rfl rfl rfl (ao rfl rfl rfl rfl (ao rfl rfl rfl rfl (ao rfl rfl rfl rfl (ao rfl rfl rfl rfl (ao rfl rfl rfl rfl (ao rfl rfl rfl rfl (ay rfl rfl rfl (ai rfl rfl (ai rfl rfl (ad ?_)))))))))));refine aH ?_;have e:p9 xs t=i:=mg (by omega) (fun k x hk hx=>by simpa using h1 k x hk hx) (fun k x hk hx=>by simpa using h2 k x (by omega) hx);exact ez rfl rfl rfl ⟨⟨_,by rw[e]⟩,S⟩
theorem CV {M M2:az} {w0:World} {v:Value} {b:List Er} (hM:Lt M w0) (HJ:Lt M2 w0) (hv:(RT.er.sl).V M2 w0 b v) (zG:b.length≤1099511627776):
  Spec Tryz.prog 89 #[v] w0 (fun v' w'=>(RT.er.sl).V M w' b v'∧Step M w0 M w' aA):=by
 obtain⟨a,cap,tQ,hc,hl,hs⟩:=gH.1 hv;refine aW (args:=[_]) (fn:=Tryz.f89) Tryz.func89 rfl (n:=8) Tryz.ntmps89 (aj (ah (ai rfl rfl (ad (aj (aj (ah (ae rfl rfl (bp (v':= .slice a b.length cap) tQ (Rg.pv dH rfl rfl rfl (ad ?_)))))))))));refine bF rfl (fun c1=>?_) (fun c1=>?_)
 ·refine aj (ah (ai rfl rfl (ad (aH ?_))))
  have hb:b=[]:=by
   rcases hs with h|⟨_,_,h,_⟩
   ·exact h
   ·rw[c1]at h;cases h
  exact aP rfl rfl ⟨by rw[hb];exact jK,an _ _⟩
 ·refine aU (aj (ah ?_));refine Rg.O7 dH qS M rfl (fun a0 w1 s1=>?_);refine ae rfl rfl ?_;refine Rg.NS (A:=RT.er) (hn:=by decide) (M:=M) (M2:=M2) Hu dH qS rfl rfl rfl rfl (hv.le (s1.any M2).le) (s1.lt hM) ((s1.any M2).lt HJ) (by omega) (by omega) (fun u2 w2 qt s2=>?_);refine ai rfl rfl (ad (aH ?_));exact aP rfl rfl ⟨qt,s1.ax s2⟩
theorem Aw {M:az} {base bq:Nat} {xs:List Er} {last t:Int} (w0:World) (hM:Lt M w0) (hq:Qu M w0 base bq xs last) (hl:xs.length≤1000000) (hr:xs.Pairwise fun a b=>a.2<b.2):
  Spec Tryz.prog 88 #[.pointer (some ⟨bq,0,none⟩),.int .i64 t] w0 (fun v w=>v= .int .i64 (p9 xs t:Int)∧Step M w0 M w aA):=by
 have NU:=hq;obtain⟨⟨vl,g,jX⟩,n0,hz,Y0⟩:=hq;have SD:=jX.view (by omega);refine aW (args:=[_,_]) (fn:=Tryz.f88) Tryz.func88 rfl (n:=17) Tryz.ntmps88 (aj (ah (ai rfl rfl (ad (aj (ah (ae rfl rfl (aR rfl ⟨_,rfl⟩ rfl (aS fU rfl rfl JC (by decide) rfl rfl (aE dH rfl rfl rfl g rfl (bp (v':=vl) rfl ?_)))))))))));refine ae rfl rfl ?_;refine aM rfl rfl Zp (HB (M1:=M) _ (hM.rm vl) SD hr) (fun r5 w5 hc=>?_);obtain⟨⟨b5,rfl⟩,s5⟩:=hc;refine ae rfl rfl (bO rfl rfl rfl (bO rfl rfl rfl (ai rfl rfl (ai rfl rfl (ad (aj (ah (ae rfl rfl (ai rfl rfl (ad (aH ?_)))))))))));exact aP rfl rfl ⟨rfl,s5.any M⟩
theorem uj {M:az} {base bq:Nat} {xs:List Er} {last:Int} (w0:World) (hM:Lt M w0) (hq:Qu M w0 base bq xs last) (hl:xs.length≤1000000) (hr:xs.Pairwise fun a b=>a.2<b.2):
  Spec Tryz.prog 41 #[.pointer (some ⟨bq,0,none⟩)] w0 (fun v w=>(RT.er.sl).V M w xs v∧Step M w0 M w aA):=by
 have NU:=hq;obtain⟨⟨vl,g,jX⟩,n0,hz,Y0⟩:=hq;have SD:=jX.view (by omega);refine aW (args:=[_]) (fn:=Tryz.f41) Tryz.func41 rfl (n:=8) Tryz.ntmps41 (aj (ah (ai rfl rfl (ad (aj (ah (ae rfl rfl (aR rfl ⟨_,rfl⟩ rfl (aS fU rfl rfl JC (by decide) rfl rfl (aE dH rfl rfl rfl g rfl (bp (v':=vl) rfl ?_)))))))))));refine aM rfl rfl E89 (CV hM (hM.rm vl) SD (by omega)) (fun r wc hc=>?_);obtain⟨hc,s4⟩:=hc;refine ai rfl rfl (ad (aH ?_));exact aP rfl rfl ⟨hc,s4⟩
theorem uk {M:az} {base bq:Nat} {xs:List Er} {last t:Int} (w0:World) (hM:Lt M w0) (hq:Qu M w0 base bq xs last) (hl:xs.length≤1000000) (hr:xs.Pairwise fun a b=>a.2<b.2):
  Spec Tryz.prog 39 #[.pointer (some ⟨bq,0,none⟩),.int .i64 t] w0 (fun v w=>(RT.er.sl).V M w (xs.take (p9 xs t)) v∧Step M w0 M w aA):=by
 have NU:=hq;obtain⟨⟨vl,g,jX⟩,n0,hz,Y0⟩:=hq;have SD:=jX.view (by omega);refine aW (args:=[_,_]) (fn:=Tryz.f39) Tryz.func39 rfl (n:=14) Tryz.ntmps39 (aj (ah (ai rfl rfl (ad (aj ?_)))));apply T.oh 6 [0,1,2,3] 1 aA mixed rfl rfl rfl rfl;intro Cn Dp;have hY:=Dp M;refine ae rfl rfl ?_;refine ad ⟨rfl,rfl,rfl,?_⟩;refine aR rfl ⟨_,rfl⟩ rfl ?_;refine ad ⟨rfl,rfl,rfl,?_⟩;refine aS fU rfl rfl JC (by decide) rfl rfl ?_;refine ad ⟨rfl,rfl,rfl,?_⟩;have g1:=hY.aG g;refine aE dH rfl rfl rfl g1 rfl (bp (v':=vl) rfl ?_);refine ad ⟨rfl,rfl,rfl,?_⟩;refine ae rfl rfl ?_;refine ad ⟨rfl,rfl,rfl,?_⟩;refine ae rfl rfl ?_;refine ad ⟨rfl,rfl,rfl,?_⟩;refine fE ?_;refine⟨jP ⟨gr,⟨bJ.nilCheck rfl,⟨gq fU rfl JC (by decide),⟨ep rfl (by assumption) (by first|assumption|exact fun h=>h|(intro h;have h:_=_:=h;omega)),trivial⟩⟩⟩⟩,?_⟩;have kp:=jw aA Cn;refine aM rfl rfl E88 (Aw _ (hY.lt hM) (NU.bg hY) hl hr) (fun r6 w6 hc=>?_);obtain⟨rfl,s6⟩:=hc;refine(fun(kp:dR _ _ _)=>ad ⟨rfl,rfl,fun _=>kp,?_⟩) (by first|exact kp|exact kp.qu (by assumption)|exact kp.goN (by assumption)|exact kp.go (by assumption) (fun _ _ h=>by first|exact h|exact h.elim));have Ef:=ye xs t;refine Rg.B9 (M:=rm M vl) (w1:=w0) dH qS rfl rfl rfl SD (by omega) (fun agw CW=>?_);rw[aC]at CW;replace CW:=CW.le ((hY.any (rm M vl)).ax (s6.any _)).le;refine ad ⟨rfl,rfl,fun h=>absurd rfl h,?_⟩;refine aM rfl rfl E89 (CV ((hY.ax s6).lt hM) (((hY.any (rm M vl)).ax (s6.any _)).lt (hM.rm vl)) CW (by rw[bG];omega)) (fun r8 w8 hc=>?_);obtain⟨hc,s8⟩:=hc;refine ad ⟨rfl,rfl,fun h=>absurd rfl h,?_⟩;refine ai rfl rfl ?_;refine ad ⟨rfl,rfl,fun h=>absurd rfl h,?_⟩;refine uE (aH ?_);exact aP rfl rfl ⟨hc,(hY.ax s6).ax s8⟩
end Go.K
namespace Go.K
open Go.Proofs
namespace TKPlays15
theorem qS:TI Tryz.prog 51 (.agg #[(.string ⟨#[]⟩),(.string ⟨#[]⟩),(.int .i64 0)]) 3 40:=by unfold TI;kernel_rfl
theorem OG:placesOf Tryz.prog 51=[(0,2),(2,1)].map some:=by kernel_rfl
theorem Sz:Enters Tryz.prog 26:=enters Tryz.func26 rfl (by decide)
theorem E32:Enters Tryz.prog 32:=enters Tryz.func32 rfl (by decide)
theorem E33:Enters Tryz.prog 33:=enters Tryz.func33 rfl (by decide)
theorem Zs:Enters Tryz.prog 39:=enters Tryz.func39 rfl (by decide)
theorem Zt:Enters Tryz.prog 41:=enters Tryz.func41 rfl (by decide)
end TKPlays15
open TKPlays15
set_option maxRecDepth 10000
theorem JJ {xs:List Er} {e:Er} (h:xs.Pairwise fun a b=>a.2<b.2) (h1:∀x∈xs,x.2<e.2):(xs++[e]).Pairwise fun a b=>a.2<b.2:=List.pairwise_append.2 ⟨h,List.pairwise_singleton _ _,fun a ha b hb=>by rw[cn.1 hb];exact h1 a ha⟩
end Go.K
namespace Go.K
open Go.Proofs
namespace TKUpto15
theorem qS:TI Tryz.prog 51 (.agg #[(.string ⟨#[]⟩),(.string ⟨#[]⟩),(.int .i64 0)]) 3 40:=by unfold TI;kernel_rfl
theorem OG:placesOf Tryz.prog 51=[(0,2),(2,1)].map some:=by kernel_rfl
theorem OF:Enters Tryz.prog 15:=enters Tryz.func15 rfl (by decide)
theorem Zn:Enters Tryz.prog 21:=enters Tryz.func21 rfl (by decide)
theorem Sz:Enters Tryz.prog 26:=enters Tryz.func26 rfl (by decide)
theorem E32:Enters Tryz.prog 32:=enters Tryz.func32 rfl (by decide)
theorem E33:Enters Tryz.prog 33:=enters Tryz.func33 rfl (by decide)
theorem Zs:Enters Tryz.prog 39:=enters Tryz.func39 rfl (by decide)
theorem Zt:Enters Tryz.prog 41:=enters Tryz.func41 rfl (by decide)
theorem SA:Enters Tryz.prog 48:=enters Tryz.func48 rfl (by decide)
theorem Zo:Enters Tryz.prog 51:=enters Tryz.func51 rfl (by decide)
theorem SB:Enters Tryz.prog 52:=enters Tryz.func52 rfl (by decide)
end TKUpto15
open TKUpto15
set_option maxRecDepth 10000
theorem Ax {n:Nat} {s:Se} {ls:List (List Po)} {upto:Int} {xs:List Er} (h:xs.Pairwise fun a b=>a.2<b.2) (j:Nat):p6 n s ls upto (xs.take (p9 xs upto)) j=p6 n s ls upto xs j:=by
 unfold p6;rw[←(Au h).1,List.any_filter];congr 3;funext e
 cases decide (e.2<upto)<;>rfl
theorem um {M:az} {l:List Dc} {ts:List Fd} {v0 v1:Value} {upto:Int} {w0:World} (hM:Lt M w0) (hv:(RT.dc.sl).V M w0 l v0) (gF:(RT.fd.sl).V M w0 ts v1) (hx: -9223372036854775808≤upto∧upto≤9223372036854775807) (h0: ¬M 0) (Hv:∃e fr,w0.heap[0]? =some (.cells (E0.map fun(k:Nat)=>Value.int .u8 (k:Int)).toArray e fr)):
  Spec Tryz.prog 13 #[v0,v1,.int .i64 upto] w0 (fun v w=>v= .bool true∧Step M w0 M w aA):=by
 have ku:=hM;have hgl:=j4 l 0 2 10;obtain⟨eB,_⟩:=Al l (show(0:Int)≤0 by decide) (show(1:Int)≤2 by decide) 10;obtain⟨TN,TO,KL⟩:=Hv;have ZS:=ed gF;refine aW (args:=[_,_,_]) (fn:=Tryz.f13) Tryz.func13 rfl (n:=74) Tryz.ntmps13 ?_;have S:Step M w0 M w0 aA:=(an _ _).ca (fun _ h=>h.elim) (fun _ h=>h.elim);refine aj (ah (ai rfl rfl (ad (aj (ah (ae rfl rfl ?_))))));refine aM rfl rfl Zn (Ba (most:=10) (a:=0) (s:=2) _ hM hv (by decide) (by decide) (by decide)) (fun r1 w1 hc=>?_);obtain⟨hg,s1⟩:=hc;replace hv:=hv.le s1.le;replace gF:=gF.le s1.le;replace hM:=s1.lt hM;have:=S.size;replace S:=S.ax s1;refine ai rfl rfl (ad (aj (ah (ae rfl rfl ?_))));refine aM rfl rfl OF (ue _ hM hg BY (by omega) eB) (fun r2 w2 hc=>?_);obtain⟨sa,rfl,hs,s2⟩:=hc;obtain⟨aa,rfl⟩:=hs.jr;replace gF:=gF.le s2.le;replace hg:=hg.le s2.le;replace hM:=s2.lt hM;have:=S.size;replace S:=S.ax s2;refine ae rfl rfl (bO rfl rfl rfl (bO rfl rfl rfl (ai rfl rfl (ai rfl rfl (ad (aj (ah ?_)))))));refine aM rfl rfl E32 (D3 _ hM) (fun r3 w3 hc=>?_);obtain⟨bq,rfl,N1,s3,hq⟩:=hc;have h20:=S.size;generalize ins M bq=Mq at s3 hq;replace gF:=gF.le s3.le;replace hs:=hs.le (by decide) s3.le;replace hM:=s3.lt hM;have:=S.size;replace S:=S.ax s3;refine ai rfl rfl (ad (aj (aj (ah (ae rfl rfl (Rg.pz Tryz.underlying25 rfl rfl rfl (ae rfl rfl (Rg.wR (g:=24) rfl ((by simp)) (al rfl rfl (ae rfl rfl (al rfl rfl ?_)))))))))));refine Rg.pz Tryz.underlying66 rfl rfl rfl (ay rfl rfl rfl (ad (T.wT rfl ((by simp)) (aU (aj (aj (ah (ai rfl rfl (ad (bj ?_))))))))));refine dI (σ:=Nat×List Er) (fun q=>[(1,v1),(2,.int .i64 upto),(8,.pointer (some aa)),(10,.pointer (some ⟨bq,0,none⟩)),(11,.int .i64 (q.1:Int))]) (fun q w=>∃M1,Lt M1 w∧Step M w0 M1 w aA∧Qu M1 w w2.heap.size bq q.2 (2*(q.1:Int)-1)∧(RT.fd.sl).V M1 w ts v1∧ch RT.se M1 w (.pointer (some aa)) (Em (iC (fx l 0 2 10)))∧(q.2.Pairwise fun a b=>a.2<b.2)∧(∀x∈q.2,x.2≤2*(q.1:Int)-1)∧q.2.length=q.1∧q.1≤10∧q.1≤ts.length) (fun q=>ts.length-q.1) (0,[]) (.cons rfl (.cons rfl (.cons rfl (.cons rfl (.cons rfl .nil))))) ?_ ?_
 ·exact⟨_,hM,S,hq,gF,hs,List.Pairwise.nil,(fun x h=>absurd h (List.not_mem_nil)),rfl,by decide,bH _⟩
 ·clear S hM hq gF hs;rintro⟨i,xs⟩ w ⟨M1,hM,S,hq,gF,hs,KM,hle,uA,hi,lS⟩;dsimp only at hq KM hle uA hi lS ⊢;refine aj (aj (ah (ae rfl rfl (ae rfl rfl (bU fF rfl gF rfl (cf rfl rfl rfl (ae rfl rfl ?_)))))));refine aI (g:=32) rfl (fun Zu=>?_) (fun Zu=>?_)
  ·refine al rfl rfl (ae rfl rfl (al rfl rfl (cf rfl rfl rfl (aQ rfl rfl rfl (ad ?_)))));refine bF rfl (fun c7=>?_) (fun c7=>?_)
   ·refine aU (aj (bj (aj (ah (ae rfl rfl (ae rfl rfl (ae rfl rfl ?_)))))));obtain⟨t,yg⟩:∃x,ts[i]? =some x:=⟨_,aL (by omega)⟩;refine dq (M:=M1) fF rq rfl rfl rfl gF (aq _ _) (by omega) (fun u93 x Su Zv=>?_);rw[aC]at Su;obtain rfl:=bQ (yg.symm.trans Su);refine cw (M:=M1) (A:=RT.fd) cb rfl rq (by decide) rfl rfl rfl Zv (aq _ _) (fun vt DS=>?_);have Ed:=Fv DS;obtain rfl:=k7 DS;clear DS;refine ae rfl rfl (Rg.HT rfl rfl rfl (by omega) (bz rfl rfl rfl (by omega) (dX (places:=[(0,2),(2,1)]) dG qS OG rfl ⟨_,_,rfl,rfl,_,_,rfl,rfl,rfl⟩ (out:=[_,_,_]) ⟨0,[_,_],rfl,rfl,by simp[Value.cells],2,[_],rfl,rfl,by simp[Value.cells],rfl⟩ ?_)));refine aM rfl rfl E33 (D4 (e:=(t,2*(i:Int)+1)) _ hM hq (by omega) (KD Ed (by dsimp only;omega)) (eO hq.z (Nat.le_of_lt (ak hq.c.choose_spec.1)))) (fun r9 w9 hc=>?_);obtain⟨rfl,M9,hq,s9⟩:=hc;rw[if_neg (by dsimp only;omega),if_neg (by dsimp only;omega)]at hq;rw[if_neg (by dsimp only;omega)];replace gF:=gF.le s9.le;replace hs:=hs.le (by decide) s9.le;replace S:=S.cx s9 (fun b hb=>eO h20 hb.2.1);replace hM:=s9.lt hM;refine eN rfl rfl rfl (ad (T.wT rfl ((fun h=>h rfl)) (aU (ah (ae rfl rfl (bz rfl rfl rfl (by omega) (ai rfl rfl (ad ?_))))))));refine⟨rfl,(i+1,xs++[(t,2*(i:Int)+1)]),(.cons rfl (.cons rfl (.cons rfl (.cons rfl (.cons rfl .nil))))),?_,?_⟩
    ·exact⟨M9,hM,S,by dsimp only;rw[show 2*((i+1:Nat):Int)-1=2*(i:Int)+1 from by omega];exact hq,gF,hs,JJ KM (fun x hx=>by have:=hle x hx;dsimp only;omega),fun x hx=>by
      rcases cZ.1 hx with hx|hx
      ·have:=hle x hx;dsimp only;omega
      ·rw[cn.1 hx];dsimp only;omega,by simp;omega,by dsimp only;omega,by dsimp only;omega⟩
    ·dsimp only;omega
   ·refine cM (aj (ah (ae rfl rfl (ae rfl rfl ?_))));refine aM rfl rfl Zt (uj _ hM hq (by omega) KM) (fun r11 Rz hc=>?_);obtain⟨yb,o7⟩:=hc;replace hq:=hq.bg o7;replace gF:=gF.le o7.le;replace hs:=hs.le (by decide) o7.le;replace hM:=o7.lt hM;have:=S.size;replace S:=S.ax o7;refine ae rfl rfl ?_;refine aM rfl rfl SA (nV (ls:=(keysOf (fx l 0 2 10)).map (pk (fx l 0 2 10))) _ hM hs (jm _) (yc _) (yd _) (by show(List.map _ _).length≤_;rw[cN];omega) yb (by omega) (fun e _=>nW eB (by omega) _)) (fun Zw Zx hc=>?_);obtain⟨SE,SF,HC,Zy,rfl,SG,SH,qW,iP,qa⟩:=hc;replace hq:=hq.bg qW;replace gF:=gF.le qW.le;replace hs:=hs.le (by decide) qW.le;replace yb:=yb.le qW.le;replace hM:=qW.lt hM;have:=S.size;replace S:=S.ax qW;refine ai rfl rfl (ad (aj (ah (ae rfl rfl (ae rfl rfl (ae rfl rfl ?_))))));refine aM rfl rfl Zs (uk _ hM hq (by omega) KM) (fun Td Fq hc=>?_);obtain⟨vv,kL⟩:=hc;clear hq;replace iP:=iP.step kL (fun h=>h) (fun h=>h);replace gF:=gF.le kL.le;replace hs:=hs.le (by decide) kL.le;replace hM:=kL.lt hM;have:=S.size;replace S:=S.ax kL;refine ae rfl rfl ?_;refine aM rfl rfl SA (nV (ls:=(keysOf (fx l 0 2 10)).map (pk (fx l 0 2 10))) _ hM hs (jm _) (yc _) (yd _) (by show(List.map _ _).length≤_;rw[cN];omega) vv (by have:=ye xs upto;rw[bG];omega) (fun e _=>nW eB (by omega) _)) (fun Zz ZA hc=>?_);obtain⟨SI,SJ,HD,ZB,rfl,SK,SL,qX,mn,qb⟩:=hc;replace iP:=iP.step qX (fun h=>h) (fun h=>h);replace gF:=gF.le qX.le;replace hs:=hs.le (by decide) qX.le;replace vv:=vv.le qX.le;replace hM:=qX.lt hM;have:=S.size;replace S:=S.ax qX;refine ai rfl rfl (ad (aj (aj (ah (ae rfl rfl (Rg.pz iS rfl rfl rfl (ae rfl rfl (Rg.wR (g:=62) rfl ((by simp)) (al rfl rfl (ae rfl rfl (al rfl rfl ?_)))))))))))
    refine Rg.pz iS rfl rfl rfl (ay rfl rfl rfl (ad (T.wT rfl ((by simp)) (aU (aj (ah (ae rfl rfl ?_)))))));have hB:∀j,bit HC j=bit HD j:=fun j=>by rw[qa j,qb j,Ax KM]
    have B3:=S.aG KL;refine aM rfl rfl SB (mj hM iP (fun j hj=>p8 ((qa j).symm.trans hj)) (fun hn=>h0 ((S.mem 0 (ak KL)).1 hn)) ⟨TN,TO,B3⟩) (fun ZC ZD hc=>?_);obtain⟨kG,uq⟩:=hc;replace mn:=mn.step uq (fun h=>h) (fun h=>h);replace gF:=gF.le uq.le;replace hs:=hs.le (by decide) uq.le;replace hM:=uq.lt hM;have:=S.size;replace S:=S.ax uq;refine ae rfl rfl ?_;have B4:=S.aG KL;refine aM rfl rfl SB (mj hM mn (fun j hj=>p8 ((qb j).symm.trans hj)) (fun hn=>h0 ((S.mem 0 (ak KL)).1 hn)) ⟨TN,TO,B4⟩) (fun ZE ZF hc=>?_);obtain⟨nL,ur⟩:=hc;replace gF:=gF.le ur.le;replace hs:=hs.le (by decide) ur.le;replace kG:=kG.le ur.le;replace hM:=ur.lt hM;have:=S.size;replace S:=S.ax ur;refine aM rfl rfl Zo (wy hM kG nL) (fun ZG ZH hc=>?_);obtain⟨rfl,qY⟩:=hc;refine bp (v':= .bool true) (congrArg Value.bool (decide_eq_true (qV hB _))) ?_;replace gF:=gF.le qY.le;replace hs:=hs.le (by decide) qY.le;replace kG:=kG.le qY.le;replace nL:=nL.le qY.le;replace hM:=qY.lt hM;have:=S.size;replace S:=S.ax qY;refine ae rfl rfl (al rfl rfl ?_);refine aM rfl rfl Sz (pW _ hM) (fun r25 w25 hc=>?_);obtain⟨rfl,D9⟩:=hc;replace gF:=gF.le D9.le;replace hs:=hs.le (by decide) D9.le;replace kG:=kG.le D9.le;replace nL:=nL.le D9.le;replace hM:=D9.lt hM;have:=S.size;replace S:=S.ax D9;refine aQ rfl rfl rfl (ai rfl rfl (ad (aH ?_)));exact aP rfl rfl ⟨rfl,S.back⟩
  ·refine ao rfl rfl rfl rfl (ao rfl rfl rfl rfl (ay rfl rfl rfl (ad (gL rfl (cM (aj (ah (ae rfl rfl (ae rfl rfl ?_)))))))));refine aM rfl rfl Zt (uj _ hM hq (by omega) KM) (fun r11 Rz hc=>?_);obtain⟨yb,o7⟩:=hc;replace hq:=hq.bg o7;replace gF:=gF.le o7.le;replace hs:=hs.le (by decide) o7.le;replace hM:=o7.lt hM;have:=S.size;replace S:=S.ax o7;refine ae rfl rfl ?_;refine aM rfl rfl SA (nV (ls:=(keysOf (fx l 0 2 10)).map (pk (fx l 0 2 10))) _ hM hs (jm _) (yc _) (yd _) (by show(List.map _ _).length≤_;rw[cN];omega) yb (by omega) (fun e _=>nW eB (by omega) _)) (fun Zw Zx hc=>?_);obtain⟨SE,SF,HC,Zy,rfl,SG,SH,qW,iP,qa⟩:=hc;replace hq:=hq.bg qW;replace gF:=gF.le qW.le;replace hs:=hs.le (by decide) qW.le;replace yb:=yb.le qW.le;replace hM:=qW.lt hM;have:=S.size;replace S:=S.ax qW;refine ai rfl rfl (ad (aj (ah (ae rfl rfl (ae rfl rfl (ae rfl rfl ?_))))));refine aM rfl rfl Zs (uk _ hM hq (by omega) KM) (fun Td Fq hc=>?_);obtain⟨vv,kL⟩:=hc;clear hq;replace iP:=iP.step kL (fun h=>h) (fun h=>h);replace gF:=gF.le kL.le;replace hs:=hs.le (by decide) kL.le;replace hM:=kL.lt hM;have:=S.size;replace S:=S.ax kL;refine ae rfl rfl ?_;refine aM rfl rfl SA (nV (ls:=(keysOf (fx l 0 2 10)).map (pk (fx l 0 2 10))) _ hM hs (jm _) (yc _) (yd _) (by show(List.map _ _).length≤_;rw[cN];omega) vv (by have:=ye xs upto;rw[bG];omega) (fun e _=>nW eB (by omega) _)) (fun Zz ZA hc=>?_);obtain⟨SI,SJ,HD,ZB,rfl,SK,SL,qX,mn,qb⟩:=hc;replace iP:=iP.step qX (fun h=>h) (fun h=>h);replace gF:=gF.le qX.le;replace hs:=hs.le (by decide) qX.le;replace vv:=vv.le qX.le;replace hM:=qX.lt hM;have:=S.size;replace S:=S.ax qX
   refine ai rfl rfl (ad (aj (aj (ah (ae rfl rfl (Rg.pz iS rfl rfl rfl (ae rfl rfl (Rg.wR (g:=62) rfl ((by simp)) (al rfl rfl (ae rfl rfl (al rfl rfl ?_)))))))))));refine Rg.pz iS rfl rfl rfl (ay rfl rfl rfl (ad (T.wT rfl ((by simp)) (aU (aj (ah (ae rfl rfl ?_)))))));have hB:∀j,bit HC j=bit HD j:=fun j=>by rw[qa j,qb j,Ax KM]
   have B3:=S.aG KL;refine aM rfl rfl SB (mj hM iP (fun j hj=>p8 ((qa j).symm.trans hj)) (fun hn=>h0 ((S.mem 0 (ak KL)).1 hn)) ⟨TN,TO,B3⟩) (fun ZC ZD hc=>?_);obtain⟨kG,uq⟩:=hc;replace mn:=mn.step uq (fun h=>h) (fun h=>h);replace gF:=gF.le uq.le;replace hs:=hs.le (by decide) uq.le;replace hM:=uq.lt hM;have:=S.size;replace S:=S.ax uq;refine ae rfl rfl ?_;have B4:=S.aG KL;refine aM rfl rfl SB (mj hM mn (fun j hj=>p8 ((qb j).symm.trans hj)) (fun hn=>h0 ((S.mem 0 (ak KL)).1 hn)) ⟨TN,TO,B4⟩) (fun ZE ZF hc=>?_);obtain⟨nL,ur⟩:=hc;replace gF:=gF.le ur.le;replace hs:=hs.le (by decide) ur.le;replace kG:=kG.le ur.le;replace hM:=ur.lt hM;have:=S.size;replace S:=S.ax ur;refine aM rfl rfl Zo (wy hM kG nL) (fun ZG ZH hc=>?_);obtain⟨rfl,qY⟩:=hc;refine bp (v':= .bool true) (congrArg Value.bool (decide_eq_true (qV hB _))) ?_;replace gF:=gF.le qY.le;replace hs:=hs.le (by decide) qY.le;replace kG:=kG.le qY.le;replace nL:=nL.le qY.le;replace hM:=qY.lt hM;have:=S.size;replace S:=S.ax qY;refine ae rfl rfl (al rfl rfl ?_);refine aM rfl rfl Sz (pW _ hM) (fun r25 w25 hc=>?_);obtain⟨rfl,D9⟩:=hc;replace gF:=gF.le D9.le;replace hs:=hs.le (by decide) D9.le;replace kG:=kG.le D9.le;replace nL:=nL.le D9.le;replace hM:=D9.lt hM;have:=S.size;replace S:=S.ax D9;refine aQ rfl rfl rfl (ai rfl rfl (ad (aH ?_)));exact aP rfl rfl ⟨rfl,S.back⟩
end Go.K

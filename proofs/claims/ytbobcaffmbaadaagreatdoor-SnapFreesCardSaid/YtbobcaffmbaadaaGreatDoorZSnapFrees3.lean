/- What the law 'SnapFrees' needs of walks and plain Lean, part 3: nothing is assumed beyond the texts that it imports. -/
import Derived.Deep.Draws
import Derived.DeepKeys4
import Derived.Ground.Names2Prog
import Derived.Ground.SlsfProg
import Derived.KernelRfl
import Derived.Lib.Bytealg
import Derived.Shelf.SlGeneric
import Derived.Shelf.SlSortCmp.NoneTotal
import Derived.Shelf.Strings.SlTrimAscii
import Derived.Sort.Grow
import Derived.Sort.KeysCollected
import Derived.Sort.Walk0
import Derived.Test.YtbobcaffmbaadaaGreatDoorProg
import Derived.Test.YtbobcaffmbaadaaGreatDoorZSnapFrees1
import Derived.Test.YtbobcaffmbaadaaGreatDoorZSnapFrees2
set_option linter.unusedVariables false
set_option linter.unusedSimpArgs false
namespace Go.K
open Go.Proofs
set_option maxRecDepth 10000
theorem Bt {M:aD} {l:List UInt8} (w0:World) (hM:Lt M w0) (hl:l.length≤1000000):
  Spec Tryz.prog 229 #[.string ⟨l.toArray⟩] w0 (fun v w=>((RT.int .i64).sl).V M w (ei l) v∧Step M w0 M w aw):=by
 have lu:=hM;refine aR (args:=[_]) (fn:=Tryz.f229) Tryz.func229 rfl (n:=17) Tryz.ntmps229 ?_;have S:Step M w0 M w0 aw:=(al _ _).bN (fun _ h=>h.elim) (fun _ h=>h.elim);refine ai (ad (ah rfl rfl (ab (ai (ad (ah rfl rfl (ab (ai (ai (ad (ae rfl rfl ?_)))))))))));refine Rg.Fs M aF rfl rfl (fun FF adD adE adF V1 Mq=>?_);obtain⟨Ki,FG⟩:∃M',M'=ins M FF:=⟨_,rfl⟩;rw[←FG]at Mq;have Ms:Ki FF:=by rw[FG];exact .inl rfl
 replace hM:=Mq.lt hM;have:=S.size;replace S:=S.ax Mq;refine ab (a7 ?_);refine dd (σ:=Nat×List Int×Value) (fun q=>[(3,q.2.2),(7,.pointer (some ⟨FF,0,none⟩))]) (fun q w=>∃M',Lt M' w∧Step M w0 M' w aw∧w.heap[FF]? =some (.stringIter ⟨l.toArray⟩ q.1)∧M' FF∧Own (RT.int .i64) 3 M' w w0.heap.size q.2.2 q.2.1∧ei l=q.2.1++ei (l.drop q.1)∧q.1≤l.length) (fun q=>l.length-q.1) (0,[],.slice none 0 0) (.cons rfl (.cons rfl .nil)) ?_ ?_
 ·exact⟨Ki,hM,S,V1,Ms,eh _ _ _ _ _,by simp,by simp⟩
 ·rintro⟨p,xs,u⟩ w ⟨M1,hM,S,g,wu,ho,xN,hp⟩;dsimp only at g ho xN hp ⊢;refine ai (ad ?_);refine Rg.Iz (M:=M1) rfl g wu rfl (fun V2 adG V3 FH=>?_) (fun V2=>?_)
  ·have:=aj g;replace wu:=(FH.mem _ this).2 wu;replace ho:=ho.step FH (fun b hb hk=>ho.dF g (hk▸hb));replace hM:=FH.lt hM;have:=S.size;replace S:=S.trans FH (fun k hk h=>by have h:_=_:=h;subst h;first|(exfalso;omega)|(show _≤_;omega)|exact⟨by first|omega|assumption,(S.mem _ hk).1 ((FH.mem _ (aj g)).1 wu)⟩|exact .inl rfl|exact .inr rfl|exact .inr (.inl rfl)|exact .inr (.inr rfl)|exact .inr (.inr (.inl rfl))|exact rfl);have g_:=V3;clear g;have g:=g_;clear g_;refine bu rfl rfl rfl (ab (ai (kY rfl (aT (a7 (ai (ad (bu rfl rfl rfl (ah rfl rfl (ab (ad ?_)))))))))));refine ae rfl rfl (ae rfl rfl (Rg.xl Tryz.underlying21 an rfl rfl (by have:=qv (l.drop p);omega) ?_));refine fa (A:=RT.int .i64) (hn:=by decide) (M:=M1) ar I3 (by decide) rfl rfl hM (gu (by have:=qv (l.drop p);omega)) (.inr ⟨rfl,rfl⟩) (fun V4 adH CM FI=>?_);have:=aj g;replace wu:=(FI.mem _ this).2 wu;replace g:=FI.aE g;replace ho:=ho.aW FI;replace hM:=FI.lt hM;have:=S.size;replace S:=S.ax FI;refine cQ (M:=M1) (base:=w0.heap.size) ar I3 rfl rfl rfl rfl ho CM (aq _ _) (by simp;have:=gr l;rw[xN]at this;simp at this;omega) (by simp;have:=gr l;rw[xN]at this;simp at this;omega) (S.size) (fun V5 V6 adI Qj FJ=>?_);have:=aj g;replace wu:=(FJ.mem _ this).2 wu;replace g:=FJ.bB g (fun h=>by first|exact ho.dF g h|exact ho.ef g (by decide) h|(have:=(ho.base _ h).1;omega));replace CM:=CM.le FJ.le;replace hM:=FJ.lt hM;have:=S.size;replace S:=S.dE FJ ho (aZ _);replace ho:=Qj;refine ah rfl rfl (ab ?_);have eD:l.drop p≠[]:=by intro h;have:=congrArg List.length h;simp at this;omega
   refine⟨rfl,(p+(dec (l.drop p)).2,xs++[((dec (l.drop p)).1:Int)],V5),(.cons rfl (.cons rfl .nil)),?_,?_⟩
   ·refine⟨V6,hM,S,g,wu,ho,?_,?_⟩
    ·rw[xN,oQ eD,List.drop_drop];simp
    ·have:=(jJ eD).2;rw[cT]at this;dsimp only;omega
   ·have:=(jJ eD).1;have:=(jJ eD).2;rw[cT]at this;dsimp only;omega
  ·refine bu rfl rfl rfl (ab (ai (fL rfl (cB (ai (ad (ae rfl rfl (ah rfl rfl (ab (aI ?_))))))))));have e:ei l=xs:=by rw[xN,ju (by omega),qw];simp
   rw[e];have:=gr l;rw[e]at this;exact aO rfl rfl ⟨ho.close lu S (by omega),S.back⟩
def eW (p:List Int×List (List UInt8)) (c:Int):List Int×List (List UInt8):=
 if eG c=true∨l1 c=true then(p.1++[eK c],p.2)else if 0<p.1.length then([],p.2++[iO p.1])else([],p.2)
structure FK (M:aD) (w:World) (B bo bs:Nat) (p:List Int×List (List UInt8)):Prop where
 a:∃u,w.heap[bo]? =some (.cells #[u] 37 (0,0))∧Own (RT.int .i64) 3 M w B u p.1
 b:∃u,w.heap[bs]? =some (.cells #[u] 57 (0,0))∧Own RT.str 9 M w B u p.2
 m:M bo∧M bs∧B≤bo∧B≤bs
theorem nr {c:Int} (h:eG c=true∨l1 c=true):0≤c∧c≤1114111:=by
 simp only[eG,l1,decide_eq_true_eq]at h;omega
theorem tj {M:aD} {B bo bs:Nat} {p:List Int×List (List UInt8)} (w0:World) (hM:Lt M w0) (c:Int) (ht:FK M w0 B bo bs p) (hl:p.1.length≤1000000∧p.2.length≤1000000):
  Spec Tryz.prog 224 #[.int .i64 c,.pointer (some ⟨bo,0,none⟩),.pointer (some ⟨bs,0,none⟩)] w0 (fun v w=>∃M',Lt M' w∧FK M' w B bo bs (eW p c)∧Step M w0 M' w (jE M B)):=by
 obtain⟨⟨uo,go,ho⟩,⟨us,gs,hs⟩,fB,gg,OP,OQ⟩:=ht;obtain⟨own,out⟩:=p;dsimp only at ho hs hl ⊢;have eD:bo≠bs:=fun e=>by subst e;rw[go]at gs;cases gs
 refine aR (args:=[_,_,_]) (fn:=Tryz.f224) Tryz.func224 rfl (n:=23) Tryz.ntmps224 ?_;have S:Step M w0 M w0 (jE M B):=(al _ _).bN (fun _ h=>h.elim) (fun _ h=>h.2);refine ai (ai (ad (ae rfl rfl ?_)));refine aJ rfl rfl U9 (zg _ _) (fun r wc hc=>?_);obtain⟨rfl,rfl⟩:=hc;refine br (v':= .bool (decide (eG c=true))) (by cases eG c<;>rfl) (ae rfl rfl ?_);refine aL (g:=6) rfl (fun V7=>?_) (fun V7=>?_)
 ·refine ao rfl rfl rfl rfl (ao rfl rfl rfl rfl (aP rfl rfl rfl (ab (kY rfl (ai ?_)))));apply T.mW 2 [0] 2 aw mixed rfl rfl rfl rfl;intro FL IL;have ko:=IL M;have:=aj go;replace fB:=(ko.mem _ this).2 fB;replace go:=ko.aE go;have:=aj gs;replace gg:=(ko.mem _ this).2 gg;replace gs:=ko.aE gs;replace ho:=ho.aW ko;replace hs:=hs.aW ko;replace hM:=ko.lt hM;have:=S.size;replace S:=S.ax ko;refine az ar rfl rfl rfl (by first|assumption|exact bQ ko (by assumption)) rfl ?_;refine ab ⟨rfl,rfl,rfl,?_⟩;refine ae rfl rfl ?_;refine ab ⟨rfl,rfl,rfl,?_⟩;refine fo ?_;refine⟨gO ⟨ey rfl (by assumption) (by first|assumption|exact fun h=>h|(intro h;have h:_=_:=h;omega)),trivial⟩,?_⟩;have kp:=iw aw FL;have Bu:eG c=true∨l1 c=true:=by first|exact .inl (by assumption)|exact .inr (by assumption)
  refine aJ rfl rfl PM (wk c _ (nr Bu)) (fun r wc hc=>?_);obtain⟨rfl,rfl⟩:=hc;refine(fun(kp:ed _ _ _)=>ab ⟨rfl,rfl,fun _=>kp,?_⟩) (by first|exact kp|exact kp.o0 (by assumption)|exact kp.goN (by assumption)|exact kp.go (by assumption) (fun _ _ h=>by first|exact h|exact h.elim));refine fa (A:=RT.int .i64) (hn:=by decide) (M:=M) ar I3 (by decide) rfl rfl hM (gu (by have:=nr Bu;unfold eK;split<;>omega)) (.inr ⟨rfl,rfl⟩) (fun IM uI iF s1_3=>?_);have:=aj go;replace fB:=(s1_3.mem _ this).2 fB;replace go:=s1_3.aE go;have:=aj gs;replace gg:=(s1_3.mem _ this).2 gg;replace gs:=s1_3.aE gs;replace ho:=ho.aW s1_3;replace hs:=hs.aW s1_3;replace hM:=s1_3.lt hM;have:=S.size;replace S:=S.ax s1_3;refine(fun(kp:ed _ _ _)=>ab ⟨rfl,rfl,fun _=>kp,?_⟩) (by first|exact kp|exact kp.o0 (by assumption)|exact kp.goN (by assumption)|exact kp.go (by assumption) (fun _ _ h=>by first|exact h|exact h.elim));refine cQ (M:=M) (base:=B) ar I3 rfl rfl rfl rfl ho iF (aq _ _) (by simp;omega) (by simp;omega) (by have:=aj go;omega) (fun Mt FM Fo FN gI=>?_);have:=aj go;replace fB:=(gI.mem _ this).2 fB;replace go:=gI.bB go (fun h=>by first|exact ho.dF go h|exact ho.ef go (by decide) h|(have:=(ho.base _ h).1;omega));have:=aj gs;replace gg:=(gI.mem _ this).2 gg;replace gs:=gI.bB gs (fun h=>by first|exact ho.dF gs h|exact ho.ef gs (by decide) h|(have:=(ho.base _ h).1;omega));replace iF:=iF.le gI.le;replace hs:=hs.step gI (fun b h1 h2=>hs.iE ho (by decide) h1 h2);replace hM:=gI.lt hM;have:=S.size;replace S:=S.trans gI (fun b hb h=>⟨(ho.base b h).1,(S.mem b hb).1 (ho.mut_ b h)⟩);replace ho:=FN;refine ab ⟨rfl,rfl,fun h=>absurd rfl h,?_⟩;refine bL (M:=FM) lI rfl rfl go rfl ((by obtain⟨_,_,he,_⟩:=ho.isSlice;rw[he];rfl)) fB (fun Mu qz l3=>?_);change Mu.heap[_]? =some (Obj.cells #[Mt] _ _)at qz
  have:=aj go;replace fB:=(l3.mem _ this).2 fB;have:=aj gs;replace gg:=(l3.mem _ this).2 gg;replace gs:=l3.bB gs (fun hk=>by have hk:_=_:=hk;omega);replace iF:=iF.le l3.le;replace ho:=ho.step l3 (fun b hb hk=>by have hk:b=_:=hk;subst hk;first|exact absurd hb (ho.ef go (by decide))|exact absurd hb (ho.ef gs (by decide)));replace hs:=hs.step l3 (fun b hb hk=>by have hk:b=_:=hk;subst hk;first|exact absurd hb (hs.ef go (by decide))|exact absurd hb (hs.ef gs (by decide)));replace hM:=l3.lt hM;have:=S.size;replace S:=S.trans l3 (fun k hk h=>by have h:_=_:=h;subst h;first|(exfalso;omega)|(show _≤_;omega)|exact⟨by first|omega|assumption,(S.mem _ hk).1 ((l3.mem _ (aj go)).1 fB)⟩|exact .inl rfl|exact .inr rfl|exact .inr (.inl rfl)|exact .inr (.inr rfl)|exact .inr (.inr (.inl rfl))|exact rfl);have FO:=qz;clear go;have go:=FO;clear FO;refine ab ⟨rfl,rfl,fun h=>absurd rfl h,?_⟩;refine oC (aI ?_);rw[show eW (own,out) c=(own++[eK c],out)from if_pos Bu];exact Cn rfl ⟨FM,hM,⟨⟨_,go,ho⟩,⟨_,gs,hs⟩,fB,gg,OP,OQ⟩,S⟩
 ·refine ak rfl rfl (ae rfl rfl (ak rfl rfl ?_));refine aJ rfl rfl Va (Bk _ _) (fun r wc hc=>?_);obtain⟨rfl,rfl⟩:=hc;refine br (v':= .bool (decide (l1 c=true))) (by cases l1 c<;>rfl) (av rfl rfl rfl (ab ?_));refine bK rfl (fun c0=>?_) (fun c0=>?_)
  ·refine ai ?_;apply T.mW 2 [0] 2 aw mixed rfl rfl rfl rfl;intro FL IL;have ko:=IL M;have:=aj go;replace fB:=(ko.mem _ this).2 fB;replace go:=ko.aE go;have:=aj gs;replace gg:=(ko.mem _ this).2 gg;replace gs:=ko.aE gs;replace ho:=ho.aW ko;replace hs:=hs.aW ko;replace hM:=ko.lt hM;have:=S.size;replace S:=S.ax ko;refine az ar rfl rfl rfl (by first|assumption|exact bQ ko (by assumption)) rfl ?_;refine ab ⟨rfl,rfl,rfl,?_⟩;refine ae rfl rfl ?_;refine ab ⟨rfl,rfl,rfl,?_⟩;refine fo ?_;refine⟨gO ⟨ey rfl (by assumption) (by first|assumption|exact fun h=>h|(intro h;have h:_=_:=h;omega)),trivial⟩,?_⟩;have kp:=iw aw FL;have Bu:eG c=true∨l1 c=true:=by first|exact .inl (by assumption)|exact .inr (by assumption)
   refine aJ rfl rfl PM (wk c _ (nr Bu)) (fun r wc hc=>?_);obtain⟨rfl,rfl⟩:=hc;refine(fun(kp:ed _ _ _)=>ab ⟨rfl,rfl,fun _=>kp,?_⟩) (by first|exact kp|exact kp.o0 (by assumption)|exact kp.goN (by assumption)|exact kp.go (by assumption) (fun _ _ h=>by first|exact h|exact h.elim));refine fa (A:=RT.int .i64) (hn:=by decide) (M:=M) ar I3 (by decide) rfl rfl hM (gu (by have:=nr Bu;unfold eK;split<;>omega)) (.inr ⟨rfl,rfl⟩) (fun IM uI iF s1_3=>?_);have:=aj go;replace fB:=(s1_3.mem _ this).2 fB;replace go:=s1_3.aE go;have:=aj gs;replace gg:=(s1_3.mem _ this).2 gg;replace gs:=s1_3.aE gs;replace ho:=ho.aW s1_3;replace hs:=hs.aW s1_3;replace hM:=s1_3.lt hM;have:=S.size;replace S:=S.ax s1_3;refine(fun(kp:ed _ _ _)=>ab ⟨rfl,rfl,fun _=>kp,?_⟩) (by first|exact kp|exact kp.o0 (by assumption)|exact kp.goN (by assumption)|exact kp.go (by assumption) (fun _ _ h=>by first|exact h|exact h.elim));refine cQ (M:=M) (base:=B) ar I3 rfl rfl rfl rfl ho iF (aq _ _) (by simp;omega) (by simp;omega) (by have:=aj go;omega) (fun Mt FM Fo FN gI=>?_);have:=aj go;replace fB:=(gI.mem _ this).2 fB;replace go:=gI.bB go (fun h=>by first|exact ho.dF go h|exact ho.ef go (by decide) h|(have:=(ho.base _ h).1;omega));have:=aj gs;replace gg:=(gI.mem _ this).2 gg;replace gs:=gI.bB gs (fun h=>by first|exact ho.dF gs h|exact ho.ef gs (by decide) h|(have:=(ho.base _ h).1;omega));replace iF:=iF.le gI.le;replace hs:=hs.step gI (fun b h1 h2=>hs.iE ho (by decide) h1 h2);replace hM:=gI.lt hM;have:=S.size;replace S:=S.trans gI (fun b hb h=>⟨(ho.base b h).1,(S.mem b hb).1 (ho.mut_ b h)⟩);replace ho:=FN;refine ab ⟨rfl,rfl,fun h=>absurd rfl h,?_⟩;refine bL (M:=FM) lI rfl rfl go rfl ((by obtain⟨_,_,he,_⟩:=ho.isSlice;rw[he];rfl)) fB (fun Mu qz l3=>?_);change Mu.heap[_]? =some (Obj.cells #[Mt] _ _)at qz
   have:=aj go;replace fB:=(l3.mem _ this).2 fB;have:=aj gs;replace gg:=(l3.mem _ this).2 gg;replace gs:=l3.bB gs (fun hk=>by have hk:_=_:=hk;omega);replace iF:=iF.le l3.le;replace ho:=ho.step l3 (fun b hb hk=>by have hk:b=_:=hk;subst hk;first|exact absurd hb (ho.ef go (by decide))|exact absurd hb (ho.ef gs (by decide)));replace hs:=hs.step l3 (fun b hb hk=>by have hk:b=_:=hk;subst hk;first|exact absurd hb (hs.ef go (by decide))|exact absurd hb (hs.ef gs (by decide)));replace hM:=l3.lt hM;have:=S.size;replace S:=S.trans l3 (fun k hk h=>by have h:_=_:=h;subst h;first|(exfalso;omega)|(show _≤_;omega)|exact⟨by first|omega|assumption,(S.mem _ hk).1 ((l3.mem _ (aj go)).1 fB)⟩|exact .inl rfl|exact .inr rfl|exact .inr (.inl rfl)|exact .inr (.inr rfl)|exact .inr (.inr (.inl rfl))|exact rfl);have FO:=qz;clear go;have go:=FO;clear FO;refine ab ⟨rfl,rfl,fun h=>absurd rfl h,?_⟩;refine oC (aI ?_);rw[show eW (own,out) c=(own++[eK c],out)from if_pos Bu];exact Cn rfl ⟨FM,hM,⟨⟨_,go,ho⟩,⟨_,gs,hs⟩,fB,gg,OP,OQ⟩,S⟩
  ·refine aT (ai (ai (ad (az ar rfl rfl rfl (by assumption) rfl (gN ar rfl ho rfl (nT rfl rfl rfl (ab ?_)))))));refine bK rfl (fun c2=>?_) (fun c2=>?_)
   ·apply T.mW 2 [0] 2 aw mixed rfl rfl rfl rfl;intro Qk Ql;have mE:=Ql M;have:=aj go;replace fB:=(mE.mem _ this).2 fB;replace go:=mE.aE go;have:=aj gs;replace gg:=(mE.mem _ this).2 gg;replace gs:=mE.aE gs;replace ho:=ho.aW mE;replace hs:=hs.aW mE;replace hM:=mE.lt hM;have:=S.size;replace S:=S.ax mE;refine az aV rfl rfl rfl (by first|assumption|exact bQ mE (by assumption)) rfl ?_;refine ab ⟨rfl,rfl,rfl,?_⟩;refine az ar rfl rfl rfl (by first|assumption|exact bQ mE (by assumption)) rfl ?_;refine ab ⟨rfl,rfl,rfl,?_⟩;refine fo ?_;refine⟨gO ⟨ey rfl (by assumption) (by first|assumption|exact fun h=>h|(intro h;have h:_=_:=h;omega)),trivial⟩,?_⟩;have kp:=iw aw Qk;refine aJ rfl rfl Vb (DW (M:=rm M uo) _ (fun b hb=>hM b hb.1) (ho.view (by omega)) (by omega)) (fun r3 w3 hc=>?_);obtain⟨rfl,s3⟩:=hc;replace s3:=s3.any M;have:=aj go;replace fB:=(s3.mem _ this).2 fB;replace go:=s3.aE go;have:=aj gs;replace gg:=(s3.mem _ this).2 gg;replace gs:=s3.aE gs;replace ho:=ho.aW s3;replace hs:=hs.aW s3;replace hM:=s3.lt hM;have:=S.size;replace S:=S.ax s3;refine(fun(kp:ed _ _ _)=>ab ⟨rfl,rfl,fun _=>kp,?_⟩) (by first|exact kp|exact kp.o0 (by assumption)|exact kp.goN (by assumption)|exact kp.go (by assumption) (fun _ _ h=>by first|exact h|exact h.elim));refine fa (A:=RT.str) (hn:=by decide) (M:=M) aV I9 (by decide) rfl rfl hM (jP.2 ⟨rfl,by have:=fe own;omega⟩) (.inr ⟨rfl,rfl⟩) (fun adJ adK tn zn=>?_);have:=aj go;replace fB:=(zn.mem _ this).2 fB;replace go:=zn.aE go;have:=aj gs;replace gg:=(zn.mem _ this).2 gg;replace gs:=zn.aE gs;replace ho:=ho.aW zn;replace hs:=hs.aW zn;replace hM:=zn.lt hM;have:=S.size;replace S:=S.ax zn;refine(fun(kp:ed _ _ _)=>ab ⟨rfl,rfl,fun _=>kp,?_⟩) (by first|exact kp|exact kp.o0 (by assumption)|exact kp.goN (by assumption)|exact kp.go (by assumption) (fun _ _ h=>by first|exact h|exact h.elim))
    refine cQ (M:=M) (base:=B) aV I9 rfl rfl rfl rfl hs tn (aq _ _) (by simp;omega) (by simp;omega) (by have:=aj go;omega) (fun V8 Qm Qn Qo mF=>?_);have:=aj go;replace fB:=(mF.mem _ this).2 fB;replace go:=mF.bB go (fun h=>by first|exact hs.dF go h|exact hs.ef go (by decide) h|(have:=(hs.base _ h).1;omega));have:=aj gs;replace gg:=(mF.mem _ this).2 gg;replace gs:=mF.bB gs (fun h=>by first|exact hs.dF gs h|exact hs.ef gs (by decide) h|(have:=(hs.base _ h).1;omega));replace tn:=tn.le mF.le;replace ho:=ho.step mF (fun b h1 h2=>ho.iE hs (by decide) h1 h2);replace hM:=mF.lt hM;have:=S.size;replace S:=S.trans mF (fun b hb h=>⟨(hs.base b h).1,(S.mem b hb).1 (hs.mut_ b h)⟩);replace hs:=Qo;refine ab ⟨rfl,rfl,fun h=>absurd rfl h,?_⟩;refine bL (M:=Qm) CD rfl rfl gs rfl ((by obtain⟨_,_,he,_⟩:=hs.isSlice;rw[he];rfl)) gg (fun LY Ix qu=>?_);change LY.heap[_]? =some (Obj.cells #[V8] _ _)at Ix;have:=aj go;replace fB:=(qu.mem _ this).2 fB;replace go:=qu.bB go (fun hk=>by have hk:_=_:=hk;omega);have:=aj gs;replace gg:=(qu.mem _ this).2 gg;replace tn:=tn.le qu.le;replace ho:=ho.step qu (fun b hb hk=>by have hk:b=_:=hk;subst hk;first|exact absurd hb (ho.ef go (by decide))|exact absurd hb (ho.ef gs (by decide)));replace hs:=hs.step qu (fun b hb hk=>by have hk:b=_:=hk;subst hk;first|exact absurd hb (hs.ef go (by decide))|exact absurd hb (hs.ef gs (by decide)));replace hM:=qu.lt hM;have:=S.size;replace S:=S.trans qu (fun k hk h=>by have h:_=_:=h;subst h;first|(exfalso;omega)|(show _≤_;omega)|exact⟨by first|omega|assumption,(S.mem _ hk).1 ((qu.mem _ (aj gs)).1 gg)⟩|exact .inl rfl|exact .inr rfl|exact .inr (.inl rfl)|exact .inr (.inr rfl)|exact .inr (.inr (.inl rfl))|exact rfl);have gs_:=Ix;clear gs;have gs:=gs_;clear gs_;refine ab ⟨rfl,rfl,fun h=>absurd rfl h,?_⟩;refine oC (ad ?_)
    refine bL (M:=Qm) lI rfl rfl go rfl (rfl) fB (fun Be lZ ia=>?_);change Be.heap[_]? =some (Obj.cells #[.slice none 0 0] _ _)at lZ;have:=aj go;replace fB:=(ia.mem _ this).2 fB;have:=aj gs;replace gg:=(ia.mem _ this).2 gg;replace gs:=ia.bB gs (fun hk=>by have hk:_=_:=hk;omega);replace tn:=tn.le ia.le;replace ho:=ho.step ia (fun b hb hk=>by have hk:b=_:=hk;subst hk;first|exact absurd hb (ho.ef go (by decide))|exact absurd hb (ho.ef gs (by decide)));replace hs:=hs.step ia (fun b hb hk=>by have hk:b=_:=hk;subst hk;first|exact absurd hb (hs.ef go (by decide))|exact absurd hb (hs.ef gs (by decide)));replace hM:=ia.lt hM;have:=S.size;replace S:=S.trans ia (fun k hk h=>by have h:_=_:=h;subst h;first|(exfalso;omega)|(show _≤_;omega)|exact⟨by first|omega|assumption,(S.mem _ hk).1 ((ia.mem _ (aj go)).1 fB)⟩|exact .inl rfl|exact .inr rfl|exact .inr (.inl rfl)|exact .inr (.inr rfl)|exact .inr (.inr (.inl rfl))|exact rfl);have FO:=lZ;clear go;have go:=FO;clear FO;refine ab ?_
    first|refine fF.nil ?_|simp+decide only[rz,jO,if_true,if_false]|skip
    have OR: ¬(eG c=true∨l1 c=true):=by rintro(h|h)<;>exact absurd h (by assumption)
    first
    |rw[show eW (own,out) c=([],out++[iO own])from(if_neg OR).trans (if_pos (by show 0<own.length;omega))]
     exact jx rfl ⟨_,hM,⟨⟨_,go,eh _ _ _ _ _⟩,⟨_,gs,hs⟩,fB,gg,OP,OQ⟩,S⟩
    |rw[show eW (own,out) c=([],out)from(if_neg OR).trans (if_neg (by show¬0<own.length;omega))]
     exact jx rfl ⟨_,hM,⟨⟨_,go,eh _ _ _ _ _⟩,⟨_,gs,hs⟩,fB,gg,OP,OQ⟩,S⟩
   ·refine aT (ad ?_);refine bL (M:=M) lI rfl rfl go rfl (rfl) fB (fun Be lZ ia=>?_);change Be.heap[_]? =some (Obj.cells #[.slice none 0 0] _ _)at lZ;have:=aj go;replace fB:=(ia.mem _ this).2 fB;have:=aj gs;replace gg:=(ia.mem _ this).2 gg;replace gs:=ia.bB gs (fun hk=>by have hk:_=_:=hk;omega);replace ho:=ho.step ia (fun b hb hk=>by have hk:b=_:=hk;subst hk;first|exact absurd hb (ho.ef go (by decide))|exact absurd hb (ho.ef gs (by decide)));replace hs:=hs.step ia (fun b hb hk=>by have hk:b=_:=hk;subst hk;first|exact absurd hb (hs.ef go (by decide))|exact absurd hb (hs.ef gs (by decide)));replace hM:=ia.lt hM;have:=S.size;replace S:=S.trans ia (fun k hk h=>by have h:_=_:=h;subst h;first|(exfalso;omega)|(show _≤_;omega)|exact⟨by first|omega|assumption,(S.mem _ hk).1 ((ia.mem _ (aj go)).1 fB)⟩|exact .inl rfl|exact .inr rfl|exact .inr (.inl rfl)|exact .inr (.inr rfl)|exact .inr (.inr (.inl rfl))|exact rfl);have FO:=lZ;clear go;have go:=FO;clear FO;refine ab ?_
    first|refine fF.nil ?_|simp+decide only[rz,jO,if_true,if_false]|skip
    have OR: ¬(eG c=true∨l1 c=true):=by rintro(h|h)<;>exact absurd h (by assumption)
    first
    |rw[show eW (own,out) c=([],out++[iO own])from(if_neg OR).trans (if_pos (by show 0<own.length;omega))]
     exact jx rfl ⟨_,hM,⟨⟨_,go,eh _ _ _ _ _⟩,⟨_,gs,hs⟩,fB,gg,OP,OQ⟩,S⟩
    |rw[show eW (own,out) c=([],out)from(if_neg OR).trans (if_neg (by show¬0<own.length;omega))]
     exact jx rfl ⟨_,hM,⟨⟨_,go,eh _ _ _ _ _⟩,⟨_,gs,hs⟩,fB,gg,OP,OQ⟩,S⟩
theorem lx (l:List Int):∀p,(l.foldl eW p).1.length≤p.1.length+l.length∧(l.foldl eW p).2.length≤p.2.length+l.length:=by
 induction l with
 |nil=>intro p;simp
 |cons c l ih=>
  intro p;have:=ih (eW p c)
  have h1:(eW p c).1.length≤p.1.length+1∧(eW p c).2.length≤p.2.length+1:=by
   unfold eW
   split
   ·simp
   ·split<;>simp
  simp only[List.foldl_cons,cq];omega
def words (l:List UInt8):List (List UInt8):=((ei l++[32]).foldl eW ([],[])).2
theorem nP (l:List UInt8):(words l).length≤l.length+1:=by
 have h:=(lx (ei l++[32]) ([],[])).2;have h2:=gr l;rw[bP]at h;have h3:([]:List (List UInt8)).length=0:=rfl;have h4: [(32:Int)].length=1:=rfl;unfold words;simp only[h3,h4]at h;omega
theorem tp {M:aD} {l:List UInt8} (w0:World) (hM:Lt M w0) (hl:l.length≤900000):
  Spec Tryz.prog 183 #[.string ⟨l.toArray⟩] w0 (fun v w=>(RT.str.sl).V M w (words l) v∧Step M w0 M w aw):=by
 have lu:=hM;refine aR (args:=[_]) (fn:=Tryz.f183) Tryz.func183 rfl (n:=23) Tryz.ntmps183 ?_;have S:Step M w0 M w0 aw:=(al _ _).bN (fun _ h=>h.elim) (fun _ h=>h.elim);refine ai (ad (ah rfl rfl (ab (ai (ad ?_)))));refine ew M CD rfl (fun qA IN V9 Wa l4 rD=>?_);obtain⟨tq,tt⟩:∃M',M'=ins M qA:=⟨_,rfl⟩;rw[←tt]at rD;have j7:tq qA:=by rw[tt];exact .inl rfl
 change IN.heap[qA]? =some (.cells #[.slice none 0 0] _ _)at l4;replace hM:=rD.lt hM;have:=S.size;replace S:=S.ax rD;refine ab (ai (ad ?_));refine ew tq lI rfl (fun eS DM PW PX ll nU=>?_);obtain⟨FP,tu⟩:∃M',M'=ins tq eS:=⟨_,rfl⟩;rw[←tu]at nU;have tv:FP eS:=by rw[tu];exact .inl rfl
 change DM.heap[eS]? =some (.cells #[.slice none 0 0] _ _)at ll;have:=aj l4;replace j7:=(nU.mem _ this).2 j7;replace l4:=nU.aE l4;replace hM:=nU.lt hM;have:=S.size;replace S:=S.ax nU;refine ab (ai (ad (gG (xs:=[]) (ys:=[.tmp 4,.tmp 3]) rfl rfl rfl (ah rfl rfl (ab (ai (ai (ad (ae rfl rfl ?_)))))))));refine aJ rfl rfl Vc (Bt _ hM (by omega)) (fun v4 w4 hc=>?_);obtain⟨xN,s4⟩:=hc;have:=aj l4;replace j7:=(s4.mem _ this).2 j7;replace l4:=s4.aE l4;have:=aj ll;replace tv:=(s4.mem _ this).2 tv;replace ll:=s4.aE ll;replace hM:=s4.lt hM;have:=S.size;replace S:=S.ax s4;refine bM ar rfl xN rfl (ae rfl rfl (ab (a7 ?_)));refine dd (σ:=Nat) (fun k=>[(3,.pointer (some ⟨qA,0,none⟩)),(5,.func (.func 224) #[] #[.pointer (some ⟨eS,0,none⟩),.pointer (some ⟨qA,0,none⟩)]),(10,v4),(11,.int .i64 ((ei l).length:Int)),(12,.int .i64 (k:Int))]) (fun k w=>∃M',Lt M' w∧Step M w0 M' w aw∧FK M' w w0.heap.size eS qA (((ei l).take k).foldl eW ([],[]))∧((RT.int .i64).sl).V M' w (ei l) v4∧k≤(ei l).length) (fun k=>(ei l).length-k) 0 (.cons rfl (.cons rfl (.cons rfl (.cons rfl (.cons rfl .nil))))) ?_ ?_
 ·exact⟨_,hM,S,⟨⟨_,ll,eh _ _ _ _ _⟩,⟨_,l4,eh _ _ _ _ _⟩,tv,j7,by omega,by omega⟩,xN,bG _⟩
 ·rintro k w ⟨M1,hM,S,ht,xN,hk⟩;refine ai (ad (bY rfl rfl rfl (ab (ai ?_))));refine bK rfl (fun c5=>?_) (fun c5=>?_)
  ·refine aT (ai (a7 (ai (ad ?_))));refine dq (M:=M1) ar I3 rfl rfl rfl xN (aq _ _) (by omega) (fun u6 c AS FQ=>?_);refine cn (M:=M1) an rfl rfl FQ (aq _ _) (fun in6=>?_);refine ah rfl rfl (ab (ad (ae rfl rfl (ae rfl rfl ?_))));have nL:=gr l;have Ie:=lx ((ei l).take k) ([],[]);rw[bS]at Ie;refine Rg.nY (first:=[]) (captured:=[.pointer (some ⟨eS,0,none⟩),.pointer (some ⟨qA,0,none⟩)]) rfl rfl rfl PL (tj (B:=w0.heap.size) _ hM c ht (by simp at Ie;omega)) (fun r7 w7 hc=>?_);obtain⟨M2,Kj,IP,s7⟩:=hc;have tk:(ei l).take (k+1)=(ei l).take k++[c]:=by rw[cw];simp only[aG]at AS;rw[AS];rfl
   refine ab (ad (bA rfl rfl rfl (by omega) (ae rfl rfl (ab ?_))));refine⟨rfl,k+1,(.cons rfl (.cons rfl (.cons rfl (.cons rfl (.cons rfl .nil))))),?_,?_⟩
   ·exact⟨M2,Kj,S.jR s7 (aZ _),by rw[tk,oF];exact IP,xN.le s7.le,by omega⟩
   ·omega
  ·refine cB (ai (ad (ae rfl rfl ?_)));have nL:=gr l;have Ie:=lx ((ei l).take k) ([],[]);rw[bS]at Ie;refine Rg.nY (first:=[]) (captured:=[.pointer (some ⟨eS,0,none⟩),.pointer (some ⟨qA,0,none⟩)]) rfl rfl rfl PL (tj (B:=w0.heap.size) _ hM 32 ht (by simp at Ie;omega)) (fun r9 w9 hc=>?_);obtain⟨M2,Kj,IP,s9⟩:=hc;have e9:eW (((ei l).take k).foldl eW ([],[])) 32=(ei l++[32]).foldl eW ([],[]):=by rw[oF,bT (by omega)];rfl
   rw[e9]at IP;obtain⟨_,⟨us,gs,hs⟩,_⟩:=IP;replace S:=S.jR s9 (aZ _);refine ab (ai (ad (az aV rfl rfl rfl gs rfl (ah rfl rfl (ab (aI ?_))))));exact aO rfl rfl ⟨Own.close lu S hs (by have:=nP l;omega),S.back⟩
end Go.K
namespace Go.K
open Go.Proofs
set_option maxRecDepth 10000
theorem FR {p:List Int×List (List UInt8)} {c:Int} (h:rL c=true):eW p c=(p.1++[eK c],p.2):=if_pos (by simpa[rL]using h)
theorem nQ {p:List Int×List (List UInt8)} {c:Int} (h:rL c=false):eW p c=if 0<p.1.length then([],p.2++[iO p.1])else([],p.2):=if_neg (by simpa[rL]using h)
def EE (sg:List Int) (i:Nat) (ws:List (List UInt8)):Prop:=(i≤sg.length∧(sg.take i).foldl eW ([],[])=([],ws))∨(i=sg.length+1∧((sg++[32]).foldl eW ([],[])).2=ws)
theorem FT {c:Int} (h:rL c=true):0≤c∧c≤1114111:=nr (by simpa[rL]using h)
theorem Qp:rL 32=false:=by decide
theorem qB {sg:List Int} {i:Nat} {c:Int} (h:sg[i]? =some c) (p:List Int×List (List UInt8)):(sg.take (i+1)).foldl eW p=eW ((sg.take i).foldl eW p) c:=by
 rw[cw,h,dp,oF];rfl
theorem EE.skip {sg:List Int} {i:Nat} {ws:List (List UInt8)} {c:Int} (h:EE sg i ws) (hc:sg[i]? =some c) (hi:rL c=false):EE sg (i+1) ws:=by
 have dA:=(au.1 hc).1;rcases h with⟨_,h⟩|⟨h,_⟩
 ·exact .inl ⟨dA,by rw[qB hc,h,nQ hi];rfl⟩
 ·omega
theorem EE.word {sg:List Int} {j:Nat} {own:List Int} {ws:List (List UInt8)} (h:(sg.take j).foldl eW ([],[])=(own,ws)) (ho:0<own.length) (hj:j≤sg.length) (hn:∀c,sg[j]? =some c→rL c=false):EE sg (j+1) (ws++[iO own]):=by
 rcases mS hj with e|dA
 ·refine .inr ⟨by omega,?_⟩;rw[e,List.take_length]at h;rw[oF,h];show(eW (own,ws) 32).2=_;rw[nQ Qp,if_pos ho]
 ·have hc:sg[j]? =some sg[j]:=aK dA;exact .inl ⟨dA,by rw[qB hc,h,nQ (hn _ hc),if_pos ho]⟩
theorem EE.done {sg:List Int} {i:Nat} {ws:List (List UInt8)} (h:EE sg i ws) (hi:sg.length≤i):((sg++[32]).foldl eW ([],[])).2=ws:=by
 rcases h with⟨h1,h⟩|⟨_,h⟩
 ·rw[bT (by omega)]at h;rw[oF,h];show(eW ([],ws) 32).2=_;rw[nQ Qp];rfl
 ·exact h
theorem EE.len {sg:List Int} {i:Nat} {ws:List (List UInt8)} (h:EE sg i ws):ws.length≤sg.length+1:=by
 rcases h with⟨_,h⟩|⟨_,h⟩
 ·have:=(lx (sg.take i) ([],[])).2;rw[h,bS]at this;simp only[ib]at this;have e:(([]:List Int),([]:List (List UInt8))).2.length=0:=rfl;omega
 ·have:=(lx (sg++[32]) ([],[])).2;rw[h,bP]at this;have e:(([]:List Int),([]:List (List UInt8))).2.length=0:=rfl;have e2: [(32:Int)].length=1:=rfl;omega
theorem fz {sg:List Int} {j:Nat} {own:List Int} {ws:List (List UInt8)} (h:(sg.take j).foldl eW ([],[])=(own,ws)):own.length≤sg.length∧ws.length≤sg.length:=by
 have:=lx (sg.take j) ([],[]);rw[h,bS]at this;simp only[ib]at this;have e:(([]:List Int),([]:List (List UInt8))).1.length=0:=rfl;have e2:(([]:List Int),([]:List (List UInt8))).2.length=0:=rfl;omega
theorem zo {M:aD} {l:List UInt8} (w0:World) (hM:Lt M w0) (hl:l.length≤900000):
  Spec Tryz.prog 201 #[.string ⟨l.toArray⟩] w0 (fun v w=>(RT.str.sl).V M w (words l) v∧Step M w0 M w aw):=by
 have lu:=hM;have nL:=gr l;refine aR (args:=[_]) (fn:=Tryz.f201) Tryz.func201 rfl (n:=50) Tryz.ntmps201 ?_;have S:Step M w0 M w0 aw:=(al _ _).bN (fun _ h=>h.elim) (fun _ h=>h.elim);refine ai (ad (ah rfl rfl (ab (ai (ad (ae rfl rfl ?_))))));refine aJ rfl rfl Vg (zm _ hM (by omega)) (fun v1 w1 hc=>?_);obtain⟨hv,s1⟩:=hc;replace hM:=s1.lt hM;have:=S.size;replace S:=S.ax s1;refine ah rfl rfl (ab (ai (ad (ah rfl rfl (ab (ai (ai (ad (ah rfl rfl (ab (a7 ?_)))))))))));refine dd (σ:=Nat×Value) (fun q=>[(3,v1),(4,q.2),(5,.int .i64 (q.1:Int))]) (fun q w=>∃M' ws,Lt M' w∧Step M w0 M' w aw∧Own RT.str 9 M' w w0.heap.size q.2 ws∧((RT.int .i64).sl).V M' w (ei l) v1∧EE (ei l) q.1 ws) (fun q=>(ei l).length+1-q.1) (0,.slice none 0 0) (.cons rfl (.cons rfl (.cons rfl .nil))) ?_ ?_
 ·exact⟨M,[],hM,S,eh _ _ _ _ _,hv,.inl ⟨bG _,rfl⟩⟩
 ·rintro⟨i,u4⟩ w ⟨M1,ws,hM,S,pF,hv,Qq⟩;dsimp only at pF Qq ⊢;refine ai (ai (ad (ae rfl rfl (ae rfl rfl (bM ar rfl hv rfl (bY rfl rfl rfl (ab ?_)))))));refine bK rfl (fun c4=>?_) (fun c4=>?_)
  ·refine aT (ai (a7 (ai (ad (ae rfl rfl (ae rfl rfl ?_))))));refine dq (M:=M1) ar I3 rfl rfl rfl hv (aq _ _) (by omega) (fun Qr c TC huc=>?_);refine cn (M:=M1) an rfl rfl huc (aq _ _) (fun inc=>?_);rw[aG]at TC;refine aJ rfl rfl PN (zk c _) (fun r wc hc=>?_);obtain⟨rfl,rfl⟩:=hc;refine br (v':= .bool (decide (rL c=true))) (by cases rL c<;>rfl) (ah rfl rfl (ab (ai (ai (ad (ae rfl rfl (km rfl rfl (br (v':= .bool (decide (rL c=false))) (by cases rL c<;>rfl) (ab ?_)))))))));refine bK rfl (fun c7=>?_) (fun c7=>?_)
   ·refine cB (ad (ae rfl rfl (bA rfl rfl rfl (by omega) (ah rfl rfl (ab ?_)))));refine⟨rfl,(i+1,u4),(.cons rfl (.cons rfl (.cons rfl .nil))),?_,?_⟩
    ·exact⟨M1,ws,hM,S,pF,hv,Qq.skip TC (by assumption)⟩
    ·dsimp only;omega
   ·refine aT (ai (ad (ah rfl rfl (ab (ai (a7 ?_))))));refine dd (σ:=Nat×List Int×Value) (fun q=>[(3,v1),(4,u4),(5,.int .i64 (q.1:Int)),(7,q.2.2)]) (fun q w=>∃M',Lt M' w∧Step M w0 M' w aw∧Own RT.str 9 M' w w0.heap.size u4 ws∧Own (RT.int .i64) 3 M' w w0.heap.size q.2.2 q.2.1∧((RT.int .i64).sl).V M' w (ei l) v1∧((ei l).take q.1).foldl eW ([],[])=(q.2.1,ws)∧i≤q.1∧q.1≤(ei l).length∧(i<q.1→0<q.2.1.length)) (fun q=>(ei l).length-q.1) (i,[],.slice none 0 0) (.cons rfl (.cons rfl (.cons rfl (.cons rfl .nil)))) ?_ ?_
    ·have Wb:((ei l).take i).foldl eW ([],[])=([],ws):=by
      rcases Qq with⟨_,h⟩|⟨h,_⟩
      ·exact h
      ·omega
     exact⟨M1,hM,S,pF,eh _ _ _ _ _,hv,Wb,aZ _,by dsimp only;omega,fun h=>absurd h (mB _)⟩
    ·rintro⟨j,own,u7⟩ w ⟨M2,hM,S,pF,rM,hv,hf,OK,qj,qf⟩;dsimp only at rM hf OK qj qf ⊢;refine ai (ai (ad (ae rfl rfl (ae rfl rfl (bM ar rfl hv rfl (bY rfl rfl rfl (ae rfl rfl ?_)))))));refine aL (g:=27) rfl (fun Wc=>?_) (fun Wc=>?_)
     ·refine ak rfl rfl (ae rfl rfl (ak rfl rfl (ae rfl rfl (ak rfl rfl ?_))));refine dq (M:=M2) ar I3 rfl rfl rfl hv (aq _ _) (by omega) (fun adM d tw hud=>?_);refine ak rfl rfl ?_;refine cn (M:=M2) an rfl rfl hud (aq _ _) (fun ind=>?_);rw[aG]at tw;refine ak rfl rfl ?_;refine aJ rfl rfl PN (zk d _) (fun r wc hc=>?_);obtain⟨rfl,rfl⟩:=hc;refine br (v':= .bool (decide (rL d=true))) (by cases rL d<;>rfl) (aP rfl rfl rfl (ab ?_));refine bK rfl (fun c9=>?_) (fun c9=>?_)
      ·refine aT (a7 (ai (ad (ae rfl rfl (ae rfl rfl (ae rfl rfl ?_))))));refine dq (M:=M2) ar I3 rfl rfl rfl hv (aq _ _) (by omega) (fun Qs e AP hue=>?_);refine cn (M:=M2) an rfl rfl hue (aq _ _) (fun kZ=>?_);rw[aG]at AP;have Mv:rL e=true:=by rw[tw]at AP;cases AP;assumption
       refine aJ rfl rfl Vh (Br e _ (FT Mv)) (fun r wc hc=>?_);obtain⟨rfl,rfl⟩:=hc;refine fa (A:=RT.int .i64) (hn:=by decide) (M:=M2) ar I3 (by decide) rfl rfl hM (gu (by have:=FT Mv;unfold eK;split<;>omega)) (.inr ⟨rfl,rfl⟩) (fun aac aad Bv zq=>?_);replace hv:=hv.le zq.le;replace pF:=pF.aW zq;replace rM:=rM.aW zq;replace hM:=zq.lt hM;have:=S.size;replace S:=S.ax zq;refine cQ (M:=M2) (base:=w0.heap.size) ar I3 rfl rfl rfl rfl rM Bv (aq _ _) (by have:=fz hf;simp;omega) (by have:=fz hf;simp;omega) (S.size) (fun Kl Qt Qu Mw mq=>?_);replace hv:=hv.le mq.le;replace Bv:=Bv.le mq.le;replace pF:=pF.step mq (fun b h1 h2=>pF.iE rM (by decide) h1 h2);replace hM:=mq.lt hM;have:=S.size;replace S:=S.dE mq rM (aZ _);replace rM:=Mw;refine ah rfl rfl (ab (ad (ae rfl rfl (bA rfl rfl rfl (by omega) (ah rfl rfl (ab ?_))))));refine⟨rfl,(j+1,own++[eK e],Kl),(.cons rfl (.cons rfl (.cons rfl (.cons rfl .nil)))),?_,?_⟩
       ·exact⟨Qt,hM,S,pF,rM,hv,by rw[qB AP,hf,FR Mv],by dsimp only;omega,by dsimp only;omega,fun _=>by simp⟩
       ·dsimp only;omega
      ·refine cB (ad (ae rfl rfl (ae rfl rfl ?_)));refine aJ rfl rfl PO (ti (M:=rm M2 u7) _ (fun b hb=>hM b hb.1) (rM.view (by have:=fz hf;omega)) (by have:=fz hf;omega)) (fun Ty EF Mx=>?_);obtain⟨rfl,kq⟩:=Mx;replace kq:=kq.any M2;replace hv:=hv.le kq.le;replace pF:=pF.aW kq;replace rM:=rM.aW kq;replace hM:=kq.lt hM;have:=S.size;replace S:=S.ax kq;refine fa (A:=RT.str) (hn:=by decide) (M:=M2) aV I9 (by decide) rfl rfl hM (jP.2 ⟨rfl,by have:=fe own;have:=fz hf;omega⟩) (.inr ⟨rfl,rfl⟩) (fun Qv Qw oU nt=>?_);replace hv:=hv.le nt.le;replace pF:=pF.aW nt;replace rM:=rM.aW nt;replace hM:=nt.lt hM;have:=S.size;replace S:=S.ax nt;refine cQ (M:=M2) (base:=w0.heap.size) aV I9 rfl rfl rfl rfl pF oU (aq _ _) (by have:=fz hf;simp;omega) (by have:=fz hf;simp;omega) (S.size) (fun tx nu FU oV dT=>?_);replace hv:=hv.le dT.le;replace oU:=oU.le dT.le;replace rM:=rM.step dT (fun b h1 h2=>rM.iE pF (by decide) h1 h2);replace hM:=dT.lt hM;have:=S.size;replace S:=S.dE dT pF (aZ _);replace pF:=oV;refine ah rfl rfl (ab (ad (ae rfl rfl (bA rfl rfl rfl (by omega) (ah rfl rfl (ab ?_))))))
       have qf:0<own.length:=by
        rcases mS OK with e|h
        ·exfalso;subst e
         first|omega|(rw[TC]at tw;cases tw;exact c9 (by cases hq:rL c with|true=>rfl|false=>exact absurd hq (by assumption)))
        ·exact qf h
       have Wd:∀c,(ei l)[j]? =some c→rL c=false:=fun c hc=>by
        first|(rw[eH (by omega)]at hc;cases hc)|(rw[tw]at hc;cases hc;exact eF.2 c9)
       refine⟨rfl,(j+1,tx),(.cons rfl (.cons rfl (.cons rfl .nil))),?_,?_⟩
       ·exact⟨nu,_,hM,S,pF,hv,EE.word hf qf qj Wd⟩
       ·dsimp only;omega
     ·refine ao rfl rfl rfl rfl (ao rfl rfl rfl rfl (ao rfl rfl rfl rfl (ao rfl rfl rfl rfl (ao rfl rfl rfl rfl (av rfl rfl rfl (ab (fL rfl (cB (ad (ae rfl rfl (ae rfl rfl ?_)))))))))));refine aJ rfl rfl PO (ti (M:=rm M2 u7) _ (fun b hb=>hM b hb.1) (rM.view (by have:=fz hf;omega)) (by have:=fz hf;omega)) (fun Ty EF Mx=>?_);obtain⟨rfl,kq⟩:=Mx;replace kq:=kq.any M2;replace hv:=hv.le kq.le;replace pF:=pF.aW kq;replace rM:=rM.aW kq;replace hM:=kq.lt hM;have:=S.size;replace S:=S.ax kq;refine fa (A:=RT.str) (hn:=by decide) (M:=M2) aV I9 (by decide) rfl rfl hM (jP.2 ⟨rfl,by have:=fe own;have:=fz hf;omega⟩) (.inr ⟨rfl,rfl⟩) (fun Qv Qw oU nt=>?_);replace hv:=hv.le nt.le;replace pF:=pF.aW nt;replace rM:=rM.aW nt;replace hM:=nt.lt hM;have:=S.size;replace S:=S.ax nt;refine cQ (M:=M2) (base:=w0.heap.size) aV I9 rfl rfl rfl rfl pF oU (aq _ _) (by have:=fz hf;simp;omega) (by have:=fz hf;simp;omega) (S.size) (fun tx nu FU oV dT=>?_);replace hv:=hv.le dT.le;replace oU:=oU.le dT.le;replace rM:=rM.step dT (fun b h1 h2=>rM.iE pF (by decide) h1 h2);replace hM:=dT.lt hM;have:=S.size;replace S:=S.dE dT pF (aZ _);replace pF:=oV;refine ah rfl rfl (ab (ad (ae rfl rfl (bA rfl rfl rfl (by omega) (ah rfl rfl (ab ?_))))))
      have qf:0<own.length:=by
       rcases mS OK with e|h
       ·exfalso;subst e
        first|omega|(rw[TC]at tw;cases tw;exact c9 (by cases hq:rL c with|true=>rfl|false=>exact absurd hq (by assumption)))
       ·exact qf h
      have Wd:∀c,(ei l)[j]? =some c→rL c=false:=fun c hc=>by
       first|(rw[eH (by omega)]at hc;cases hc)|(rw[tw]at hc;cases hc;exact eF.2 c9)
      refine⟨rfl,(j+1,tx),(.cons rfl (.cons rfl (.cons rfl .nil))),?_,?_⟩
      ·exact⟨nu,_,hM,S,pF,hv,EE.word hf qf qj Wd⟩
      ·dsimp only;omega
  ·refine cB (ai (ad (ae rfl rfl (ah rfl rfl (ab (aI ?_))))));have e:=Qq.done (by omega);have e2:words l=ws:=e;rw[e2];exact aO rfl rfl ⟨pF.close lu S (by have:=Qq.len;omega),S.back⟩
end Go.K
namespace Go.K
open Go.Proofs
set_option maxRecDepth 10000
def j8:Nat→List (List UInt8)→Int
 |_,[]=>0
 |i,w::ws=>if 30<w.length then 3 else if 500≤i then 7 else j8 (i+1) ws
theorem CN {i k:Nat} {ws:List (List UInt8)} {x:List UInt8} (h:ws[k]? =some x):j8 i (ws.drop k)=if 30<x.length then 3 else if 500≤i then 7 else j8 (i+1) (ws.drop (k+1)):=by
 have dA:=(au.1 h).1;rw[fI dA,(au.1 h).2];rfl
theorem fH {M:aD} {w:World} {x:List UInt8} {v:Value} (h:RT.str.V M w x v):v= .string ⟨x.toArray⟩:=(jP.1 h).1
theorem DZ {M:aD} {l:List UInt8} (w0:World) (hM:Lt M w0) (hl:l.length≤900000):
  Spec Tryz.prog 128 #[.string ⟨l.toArray⟩] w0 (fun v w=>(∃u,v= .tuple #[u,.int .i64 (j8 0 (words l))]∧(j8 0 (words l)=0→∃a cap,u= .slice a (words l).length cap))∧Step M w0 M w aw):=by
 have lu:=hM;refine aR (args:=[_]) (fn:=Tryz.f128) Tryz.func128 rfl (n:=30) Tryz.ntmps128 ?_;have S:Step M w0 M w0 aw:=(al _ _).bN (fun _ h=>h.elim) (fun _ h=>h.elim);refine ai (ad (ah rfl rfl (ah rfl rfl (ab (ai (ad (ah rfl rfl (ab (ai (ai (ad ?_)))))))))));refine ae rfl rfl ?_;refine aJ rfl rfl PJ (tp _ hM hl) (fun v1 w1 hc=>?_);obtain⟨hv,s1⟩:=hc;replace hM:=s1.lt hM;have:=S.size;replace S:=S.ax s1;refine bM aV rfl hv rfl (ae rfl rfl (ab (a7 ?_)));refine dd (σ:=Nat×Value) (fun q=>[(8,v1),(4,q.2),(9,.int .i64 ((words l).length:Int)),(10,.int .i64 (q.1:Int))]) (fun q w=>(∃M' xs,Lt M' w∧Step M w0 M' w aw∧Own (RT.pair RT.str (RT.int .i64)) 266 M' w w0.heap.size q.2 xs∧xs.length=q.1∧(RT.str.sl).V M' w (words l) v1)∧j8 0 (words l)=j8 q.1 ((words l).drop q.1)∧q.1≤(words l).length∧q.1≤500) (fun q=>(words l).length-q.1) (0,.slice none 0 0) (.cons rfl (.cons rfl (.cons rfl (.cons rfl .nil)))) ?_ ?_
 ·exact⟨⟨M,[],hM,S,eh _ _ _ _ _,rfl,hv⟩,rfl,bG _,bG _⟩
 ·rintro⟨i,u⟩ w ⟨⟨M1,xs,hM,S,ho,yI,hv⟩,Dw,hi,We⟩;dsimp only at ho yI Dw hi We ⊢;refine ai (ad (bY rfl rfl rfl (ab (ai ?_))));refine bK rfl (fun c3=>?_) (fun c3=>?_)
  ·refine aT (ai (a7 (ai (ad (ae rfl rfl ?_)))));refine dq (M:=M1) aV I9 rfl rfl rfl hv (aq _ _) (by omega) (fun Wf x OS Wg=>?_);refine bZ (M:=M1) aF rfl rfl rfl rfl rfl Wg (aq _ _) (fun vx tz=>?_);rw[aG]at OS;obtain rfl:=fH tz;have ht:=CN (i:=i) OS;refine ah rfl rfl (ah rfl rfl (ab (ai (a7 (ai (ad (ae rfl rfl (Rg.kN aF rfl rfl (br (v':= .int .i64 (x.length:Int)) (by simp[ByteArray.size]) (nT rfl rfl rfl (ah rfl rfl ?_)))))))))));refine ab ?_;refine bK rfl (fun c5=>?_) (fun c5=>?_)
   ·refine ai (ad (ah rfl rfl (ah rfl rfl (ab (aI ?_)))));rw[Dw,ht,if_pos (by omega)];exact dX rfl rfl rfl ⟨⟨_,rfl,fun h=>by cases h⟩,S.back⟩
   ·refine ai (ad (ae rfl rfl (jD rfl rfl rfl (ah rfl rfl (ab ?_)))));refine bK rfl (fun c7=>?_) (fun c7=>?_)
    ·refine ai (ad (ah rfl rfl (ah rfl rfl (ab (aI ?_)))));rw[Dw,ht,if_neg (by omega),if_pos (by omega)];exact dX rfl rfl rfl ⟨⟨_,rfl,fun h=>by cases h⟩,S.back⟩
    ·refine aT (ad (ae rfl rfl (ae rfl rfl (ae rfl rfl (dO (places:=[(0,1),(1,1)]) Tryz.underlying266 DG PH rfl ⟨_,_,rfl,rfl,_,_,rfl,rfl,rfl⟩ (out:=[_,_]) ⟨0,[_],rfl,rfl,by simp[Value.cells],1,[_],rfl,rfl,by simp[Value.cells],rfl⟩ ?_)))));refine fa (A:=(RT.pair RT.str (RT.int .i64))) (hn:=by decide) (M:=M1) Tryz.underlying212 DG (by decide) rfl rfl hM (eA tz (gu (x:=(i:Int)) (by omega)) rfl rfl rfl rfl) (.inl rfl) (fun Qg VS FV uN=>?_);replace hv:=hv.le uN.le;replace tz:=tz.le uN.le;replace ho:=ho.aW uN;replace hM:=uN.lt hM;have:=S.size;replace S:=S.ax uN;refine cQ (M:=M1) (base:=w0.heap.size) Tryz.underlying212 DG rfl rfl rfl rfl ho FV (aq _ _) (by simp;omega) (by simp;omega) (S.size) (fun Wh Wi Qx Qy nv=>?_);replace hv:=hv.le nv.le;replace tz:=tz.le nv.le;replace FV:=FV.le nv.le;replace hM:=nv.lt hM;have:=S.size;replace S:=S.dE nv ho (aZ _);replace ho:=Qy;refine ah rfl rfl (ab (ad (bA rfl rfl rfl (by omega) (ae rfl rfl (ab ?_)))));refine⟨rfl,(i+1,Wh),(.cons rfl (.cons rfl (.cons rfl (.cons rfl .nil)))),?_,?_⟩
     ·exact⟨⟨Wi,_,hM,S,ho,by simp[yI],hv⟩,by rw[Dw,ht,if_neg (by omega),if_neg (by omega)],by dsimp only;omega,by dsimp only;omega⟩
     ·dsimp only;omega
  ·refine cB (ai (ad (ae rfl rfl (ah rfl rfl (ah rfl rfl (ab (aI ?_)))))));have e:j8 0 (words l)=0:=by rw[Dw,ju (by omega)];rfl
   rw[e];obtain⟨a,cap,he,_⟩:=ho.isSlice;exact dX rfl rfl rfl ⟨⟨u,rfl,fun _=>⟨a,cap,by rw[he,yI];congr 1;omega⟩⟩,S.back⟩
theorem Bw {M:aD} {l:List UInt8} (w0:World) (hM:Lt M w0) (hl:l.length≤900000):
  Spec Tryz.prog 148 #[.string ⟨l.toArray⟩] w0 (fun v w=>(∃u,v= .tuple #[u,.int .i64 (j8 0 (words l))]∧(j8 0 (words l)=0→∃a cap,u= .slice a (words l).length cap))∧Step M w0 M w aw):=by
 have lu:=hM;refine aR (args:=[_]) (fn:=Tryz.f148) Tryz.func148 rfl (n:=33) Tryz.ntmps148 ?_;have S:Step M w0 M w0 aw:=(al _ _).bN (fun _ h=>h.elim) (fun _ h=>h.elim);refine ai (ad (ah rfl rfl (ah rfl rfl (ab (ai (ad (ae rfl rfl ?_)))))));refine aJ rfl rfl U7 (zo _ hM hl) (fun v1 w1 hc=>?_);obtain⟨hv,s1⟩:=hc;replace hM:=s1.lt hM;have:=S.size;replace S:=S.ax s1;refine ah rfl rfl (ab (ai (ad (ah rfl rfl (ab (ai (ai (ad (ah rfl rfl (ab (a7 ?_)))))))))));refine dd (σ:=Nat×Value) (fun q=>[(4,v1),(5,q.2),(6,.int .i64 (q.1:Int))]) (fun q w=>(∃M' xs,Lt M' w∧Step M w0 M' w aw∧Own (RT.pair RT.str (RT.int .i64)) 266 M' w w0.heap.size q.2 xs∧xs.length=q.1∧(RT.str.sl).V M' w (words l) v1)∧j8 0 (words l)=j8 q.1 ((words l).drop q.1)∧q.1≤(words l).length∧q.1≤500) (fun q=>(words l).length-q.1) (0,.slice none 0 0) (.cons rfl (.cons rfl (.cons rfl .nil))) ?_ ?_
 ·exact⟨⟨M,[],hM,S,eh _ _ _ _ _,rfl,hv⟩,rfl,bG _,bG _⟩
 ·rintro⟨i,u⟩ w ⟨⟨M1,xs,hM,S,ho,yI,hv⟩,Dw,hi,We⟩;dsimp only at ho yI Dw hi We ⊢;refine ai (ai (ad (ae rfl rfl (ae rfl rfl (bM aV rfl hv rfl (bY rfl rfl rfl (ab ?_)))))));refine bK rfl (fun c4=>?_) (fun c4=>?_)
  ·refine aT (ai (a7 (ai (ai (ad (ae rfl rfl (ae rfl rfl ?_)))))));refine dq (M:=M1) aV I9 rfl rfl rfl hv (aq _ _) (by omega) (fun Qr x OS Wg=>?_);refine bZ (M:=M1) aF rfl rfl rfl rfl rfl Wg (aq _ _) (fun vx tz=>?_);rw[aG]at OS;obtain rfl:=fH tz;have ht:=CN (i:=i) OS;refine Rg.kN aF rfl rfl (br (v':= .int .i64 (x.length:Int)) (by simp[ByteArray.size]) (nT rfl rfl rfl (ab ?_)));refine bK rfl (fun c6=>?_) (fun c6=>?_)
   ·refine ai (ad (ah rfl rfl (ah rfl rfl (ab (aI ?_)))));rw[Dw,ht,if_pos (by omega)];exact dX rfl rfl rfl ⟨⟨_,rfl,fun h=>by cases h⟩,S.back⟩
   ·refine aT (ai (ai (ad (ae rfl rfl (dh rfl rfl rfl (ab ?_))))));refine bK rfl (fun c8=>?_) (fun c8=>?_)
    ·refine ai (ad (ah rfl rfl (ah rfl rfl (ab (aI ?_)))));rw[Dw,ht,if_neg (by omega),if_pos (by omega)];exact dX rfl rfl rfl ⟨⟨_,rfl,fun h=>by cases h⟩,S.back⟩
    ·refine aT (ad (ae rfl rfl (ae rfl rfl (ae rfl rfl ?_))));refine dq (M:=M1) aV I9 rfl rfl rfl hv (aq _ _) (by omega) (fun Qs y Wj huy=>?_);refine bZ (M:=M1) aF rfl rfl rfl rfl rfl huy (aq _ _) (fun vy OT=>?_);rw[aG]at Wj;obtain rfl:=fH OT;obtain rfl:x=y:=by rw[OS]at Wj;exact bU Wj
     refine ae rfl rfl (dO (places:=[(0,1),(1,1)]) Tryz.underlying266 DG PH rfl ⟨_,_,rfl,rfl,_,_,rfl,rfl,rfl⟩ (out:=[_,_]) ⟨0,[_],rfl,rfl,by simp[Value.cells],1,[_],rfl,rfl,by simp[Value.cells],rfl⟩ ?_);refine fa (A:=(RT.pair RT.str (RT.int .i64))) (hn:=by decide) (M:=M1) Tryz.underlying212 DG (by decide) rfl rfl hM (eA OT (gu (x:=(i:Int)) (by omega)) rfl rfl rfl rfl) (.inl rfl) (fun Kl Qu Bx mq=>?_);replace hv:=hv.le mq.le;replace tz:=tz.le mq.le;replace OT:=OT.le mq.le;replace ho:=ho.aW mq;replace hM:=mq.lt hM;have:=S.size;replace S:=S.ax mq;refine cQ (M:=M1) (base:=w0.heap.size) Tryz.underlying212 DG rfl rfl rfl rfl ho Bx (aq _ _) (by simp;omega) (by simp;omega) (S.size) (fun Qz QA CO My fm=>?_);replace hv:=hv.le fm.le;replace tz:=tz.le fm.le;replace OT:=OT.le fm.le;replace Bx:=Bx.le fm.le;replace hM:=fm.lt hM;have:=S.size;replace S:=S.dE fm ho (aZ _);replace ho:=My;refine ah rfl rfl (ab (ad (ae rfl rfl (bA rfl rfl rfl (by omega) (ah rfl rfl (ab ?_))))));refine⟨rfl,(i+1,Qz),(.cons rfl (.cons rfl (.cons rfl .nil))),?_,?_⟩
     ·exact⟨⟨QA,_,hM,S,ho,by simp[yI],hv⟩,by rw[Dw,ht,if_neg (by omega),if_neg (by omega)],by dsimp only;omega,by dsimp only;omega⟩
     ·dsimp only;omega
  ·refine cB (ai (ad (ae rfl rfl (ah rfl rfl (ah rfl rfl (ab (aI ?_)))))));have e:j8 0 (words l)=0:=by rw[Dw,ju (by omega)];rfl
   rw[e];obtain⟨a,cap,he,_⟩:=ho.isSlice;exact dX rfl rfl rfl ⟨⟨u,rfl,fun _=>⟨a,cap,by rw[he,yI];congr 1;omega⟩⟩,S.back⟩
end Go.K
namespace Go.K
abbrev Fd:=List UInt8×List UInt8
abbrev Dc:=Int×List Fd
abbrev En:=Dc×Int
abbrev RT.fd:RT Fd:=RT.pair RT.str RT.str
abbrev RT.dc:RT Dc:=RT.pair (RT.int .i64) (RT.fd.sl)
abbrev RT.en:RT En:=RT.pair RT.dc (RT.int .i64)
theorem MB:Part RT.fd RT.str (fun p=>p.1) 0:=kj _ _
theorem TD:Part RT.fd RT.str (fun p=>p.2) 1:=fR _ _
theorem QB:Part RT.dc (RT.int .i64) (fun p=>p.1) 0:=kj _ _
theorem D0:Part RT.dc (RT.fd.sl) (fun p=>p.2) 1:=fR _ _
theorem QC:Part RT.en RT.dc (fun p=>p.1) 0:=kj _ _
theorem TE:Part RT.en (RT.int .i64) (fun p=>p.2) 2:=fR _ _
theorem FX {M:aD} {w:World} {p:Dc} {v:Value} (h:RT.dc.V M w p v):∃u,v= .agg #[.int .i64 p.1,u]:=by
 obtain⟨vs,⟨va,vb,rfl,⟨rfl,_⟩,hb⟩,rfl⟩:=h;have:=(RT.fd.sl (by decide)).len hb
 match vb,this with
 |[u],_=>exact⟨u,rfl⟩
theorem Km {M:aD} {w:World} {p:Dc} {u:Value} {s:Int} (h:RT.dc.V M w p (.agg #[.int .i64 p.1,u])) (hs: -9223372036854775808≤s∧s≤9223372036854775807):RT.en.V M w (p,s) (.agg [.int .i64 p.1,u,.int .i64 s].toArray):=by
 obtain⟨vs,h1,h2⟩:=h
 have h3:vs=[.int .i64 p.1,u]:=by
  have:Value.agg #[.int .i64 p.1,u]= .agg vs.toArray:=h2;injection this with this
  simpa using(congrArg Array.toList this).symm
 subst h3;exact⟨_,⟨[.int .i64 p.1,u],[.int .i64 s],rfl,h1,rfl,hs.1,hs.2⟩,rfl⟩
theorem Own.Kn {α:Type} (A:RT α) (e:TypeId) (base:Nat) {M:aD} {w:World} (h:Lt M w):Own A e M w base (.slice none 0 0) []:=eh _ _ _ _ _
section
variable {P:Program} {r:Option Nat} {n:Nat} {L:Sl} {ds:List Deferred} {w:World} {K:Kt} {ops:Array Oper} {rest:List Oper} {d:Nat} {x:Operand} {ty:TypeId} {pos:String} {af:Array Edge}
theorem Rg.ly {α:Type} {A:RT α} {e:TypeId} {v:Value} {a:α} {M:aD} (hx:ev L x=some v) (hd:Nat.blt d n=true) (hM:Lt M w) (hv:A.V M w a v) (hg:A.agg=true)
  (k:∀u w',cf A M w' u a→Step M w M w' aw→w.heap.size≤w'.heap.size→Rg P r n ops rest ((d,u)::L) ds w' K):
  Rg P r n ops ({dst:=some d,op:= .box e x,type:=ty,pos,after:=af,guard:=none}::rest) L ds w K:=by
 refine iJ M hx hd (fun b w' h1 h2 hb s=>?_);obtain⟨vs,h3,h4⟩:=hv;have hc:v.cells=vs.toArray:=by subst h4;simp[RT.val,hg,Value.cells]
 rw[hc]at hb;refine k _ w' ⟨b,0,vs,rfl,fun hm=>?_,A.le s.back.le h3,fun j u hj=>?_⟩ s.back s.size
 ·have:=hM b hm;omega
 ·rw[Nat.zero_add];exact gT hb (by simpa using hj)
end
end Go.K
namespace Go.Proofs
open Go.Shelf
def Tryz.zr:Go.Shelf.Ren:=⟨fun|160=>184|232=>231|231=>230|227=>232|234=>234|233=>233|236=>236|235=>235|228=>268|271=>271|151=>270|197=>269|120=>293|152=>292|260=>291|137=>300|119=>290|224=>301|225=>302|217=>304|266=>305|n=>n,fun|9=>9|4=>4|3=>3|5=>5|117=>310|116=>309|0=>0|124=>313|21=>21|105=>344|46=>189|119=>365|139=>368|138=>367|n=>n,fun|3=>2|4=>3|n=>n⟩
theorem Tryz.IQ:Go.Proofs.Lays.n160 Tryz.prog Tryz.zr:={
 mixed:=by kernel_rfl
 f119:=Tryz.func290.trans (congrArg some (by kernel_rfl))
 f120:=Tryz.func293.trans (congrArg some (by kernel_rfl))
 f137:=Tryz.func300.trans (congrArg some (by kernel_rfl))
 f151:=Tryz.func270.trans (congrArg some (by kernel_rfl))
 f152:=Tryz.func292.trans (congrArg some (by kernel_rfl))
 f160:=Tryz.func184.trans (congrArg some (by kernel_rfl))
 f197:=Tryz.func269.trans (congrArg some (by kernel_rfl))
 f217:=Tryz.func304.trans (congrArg some (by kernel_rfl))
 f224:=Tryz.func301.trans (congrArg some (by kernel_rfl))
 f225:=Tryz.func302.trans (congrArg some (by kernel_rfl))
 f227:=Tryz.func232.trans (congrArg some (by kernel_rfl))
 f228:=Tryz.func268.trans (congrArg some (by kernel_rfl))
 f231:=Tryz.func230.trans (congrArg some (by kernel_rfl))
 f232:=Tryz.func231.trans (congrArg some (by kernel_rfl))
 f233:=Tryz.func233.trans (congrArg some (by kernel_rfl))
 f234:=Tryz.func234.trans (congrArg some (by kernel_rfl))
 f235:=Tryz.func235.trans (congrArg some (by kernel_rfl))
 f236:=Tryz.func236.trans (congrArg some (by kernel_rfl))
 f260:=Tryz.func291.trans (congrArg some (by kernel_rfl))
 f266:=Tryz.func305.trans (congrArg some (by kernel_rfl))
 f271:=Tryz.func271.trans (congrArg some (by kernel_rfl))
 t0:=gX
 a0:=rQ
 z0:=ov
 v0:=iP
 t3:=an
 a3:=rR
 z3:=ox
 v3:=iQ
 t4:=gY
 a4:=Tryz.isAgg4
 z4:=Tryz.sizeOf4
 v4:=o4
 t5:=cd
 a5:=Tryz.isAgg5
 z5:=Tryz.sizeOf5
 v5:=Tryz.zeroValue5
 t9:=aF
 a9:=rS
 z9:=oy
 v9:=iR
 t21:=Tryz.underlying21
 a21:=Tryz.isAgg21
 z21:=Tryz.sizeOf21
 v21:=Tryz.zeroValue21
 t46:=Tryz.underlying189
 a46:=Tryz.isAgg189
 z46:=Tryz.sizeOf189
 v46:=Tryz.zeroValue189
 t105:=Tryz.underlying344
 a105:=Tryz.isAgg344
 z105:=Tryz.sizeOf344
 v105:=Tryz.zeroValue344
 t116:=Tryz.underlying309
 a116:=Tryz.isAgg309
 z116:=Tryz.sizeOf309
 t117:=Tryz.underlying310
 a117:=Tryz.isAgg310
 z117:=Tryz.sizeOf310
 v117:=Tryz.zeroValue310
 t119:=Tryz.underlying365
 a119:=Tryz.isAgg365
 z119:=Tryz.sizeOf365
 t124:=Tryz.underlying313
 a124:=Tryz.isAgg313
 z124:=Tryz.sizeOf313
 v124:=Tryz.zeroValue313
 t138:=Tryz.underlying367
 a138:=Tryz.isAgg367
 z138:=Tryz.sizeOf367
 v138:=Tryz.zeroValue367
 t139:=Tryz.underlying368
 a139:=Tryz.isAgg368
 z139:=Tryz.sizeOf368
 v139:=Tryz.zeroValue368
 g3:=by kernel_rfl
 g4:=by kernel_rfl}
end Go.Proofs
namespace Go.K
open Go.Proofs
set_option maxRecDepth 10000
open Go.RowKit Go.Shelf
def jG:List UInt8:=[97,98,99,100,101,102,103,104,105,106,107,108,109,110,111,112,113,114,115,116,117,118,119,120,121,122]
def fO (b:UInt8):Bool:=decide (97≤b.toNat∧b.toNat≤122)
def eX (s:List UInt8):Bool:=decide (1≤s.length∧s.length≤12)&&s.all fO
theorem zt (b:UInt8):jG.contains b=fO b:=by
 have key:∀n:Fin 256,jG.contains (UInt8.ofNat n)=fO (UInt8.ofNat n):=by decide
 have:=key ⟨b.toNat,UInt8.toNat_lt b⟩;simpa using this
theorem drop_nil {α:Type} (p:α→Bool):∀l:List α,l.dropWhile p=[]↔∀x∈l,p x=true
 |[]=>by simp
 |x::l=>by
  rw[List.dropWhile_cons];by_cases h:p x=true
  ·rw[if_pos h,drop_nil p l];simp[h]
  ·rw[if_neg h];simp[h]
theorem tA (s:List UInt8):Lib.trimS s jG=[]↔s.all fO=true:=by
 have e:(fun b=>jG.contains b)=fO:=funext zt;unfold Lib.trimS Lib.trimLeftS Lib.trimRightS;rw[e,drop_nil,dR];constructor
 ·intro h
  have h2:s.reverse.dropWhile fO=[]:=by
   cases hd:s.reverse.dropWhile fO with
   |nil=>rfl
   |cons x r=>
    have h3:=h x (by rw[hd];simp);have h4:=List.head?_dropWhile_not fO s.reverse;rw[hd]at h4;simp[h3]at h4
  intro x hx;exact(drop_nil _ _).1 h2 x (List.mem_reverse.2 hx)
 ·intro h x hx;rw[(drop_nil fO s.reverse).2 (fun y hy=>h y (List.mem_reverse.1 hy))]at hx
  cases hx
theorem D1 (s:List UInt8) (hs:s.length≤140737488355328) (w:World):Spec Tryz.prog 184 #[.string ⟨s.toArray⟩,.string ⟨jG.toArray⟩] w (fun v w'=>v= .string ⟨(Lib.trimS s jG).toArray⟩∧∀M,Step M w M w' aw):=
 (Any.strings_Trim_ascii Tryz.IQ Tryz.zeroValue309 (by kernel_rfl) ⟨s.toArray⟩ ⟨jG.toArray⟩ w (by simp[ByteArray.size];omega) (by decide) (fun j b hj=>by
  have hm:b∈jG:=aN hj;have:=zt b;rw[fJ.2 hm]at this;have h2:97≤b.toNat∧b.toNat≤122:=by simpa[fO]using this.symm
  omega)).mono fun e w' ⟨h1,h2⟩=>⟨_,h1,rfl,fun M=> .sL h2 M⟩
theorem D2 (s:List UInt8) (hs:s.length≤140737488355328) (w0:World):
  Spec Tryz.prog 129 #[.string ⟨s.toArray⟩] w0 (fun v w=>v= .bool (eX s)∧∀M,Step M w0 M w aw):=by
 refine aR (args:=[_]) (fn:=Tryz.f129) Tryz.func129 rfl (n:=15) Tryz.ntmps129 (ai (ad (ah rfl rfl (ab (ai (ad (ae rfl rfl (Rg.Pc (p:=s) (q:=[]) rfl rfl rfl (ae rfl rfl ?_)))))))));refine aL (g:=5) rfl (fun fu=>?_) (fun fu=>?_)
 ·refine ak rfl rfl (ae rfl rfl (ak rfl rfl (Rg.kN aF rfl rfl (br (v':= .int .i64 (s.length:Int)) (by simp[ByteArray.size]) (ak rfl rfl (fc rfl rfl rfl (aP rfl rfl rfl (ae rfl rfl ?_))))))));refine aL (g:=10) rfl (fun uL=>?_) (fun uL=>?_)
  ·refine ak rfl rfl (ae rfl rfl (ak rfl rfl ?_));refine aJ rfl rfl UY (D1 s hs _) (fun r w9 hc=>?_);obtain⟨rfl,s9⟩:=hc;refine ak rfl rfl (Rg.Co (p:=Lib.trimS s jG) (q:=[]) rfl rfl rfl (aP rfl rfl rfl (ah rfl rfl (ab (aI ?_)))))
   first
   |exact aO rfl rfl ⟨by rw[eX,decide_eq_true (p:=1≤s.length∧s.length≤12) ⟨lJ.2 fu,by omega⟩,dy];exact congrArg Value.bool (by rw[Bool.eq_iff_iff,decide_eq_true_eq];exact tA s),s9⟩
   |exact aO rfl rfl ⟨by rw[eX,decide_eq_false (p:=1≤s.length∧s.length≤12) (by omega),gK],fun M=>al _ _⟩
   |(have QD:s=[]:=Classical.not_not.1 fu
     subst QD;exact aO rfl rfl ⟨rfl,fun M=>al _ _⟩)
  ·refine ao rfl rfl rfl rfl (ao rfl rfl rfl rfl (ao rfl rfl rfl rfl (av rfl rfl rfl (ah rfl rfl (ab (aI ?_))))))
   first
   |exact aO rfl rfl ⟨by rw[eX,decide_eq_true (p:=1≤s.length∧s.length≤12) ⟨lJ.2 fu,by omega⟩,dy];exact congrArg Value.bool (by rw[Bool.eq_iff_iff,decide_eq_true_eq];exact tA s),s9⟩
   |exact aO rfl rfl ⟨by rw[eX,decide_eq_false (p:=1≤s.length∧s.length≤12) (by omega),gK],fun M=>al _ _⟩
   |(have QD:s=[]:=Classical.not_not.1 fu
     subst QD;exact aO rfl rfl ⟨rfl,fun M=>al _ _⟩)
 ·refine ao rfl rfl rfl rfl (ao rfl rfl rfl rfl (ao rfl rfl rfl rfl (av rfl rfl rfl (ae rfl rfl (ao rfl rfl rfl rfl (ao rfl rfl rfl rfl (ao rfl rfl rfl rfl (av rfl rfl rfl (ah rfl rfl (ab (aI ?_)))))))))))
  first
  |exact aO rfl rfl ⟨by rw[eX,decide_eq_true (p:=1≤s.length∧s.length≤12) ⟨lJ.2 fu,by omega⟩,dy];exact congrArg Value.bool (by rw[Bool.eq_iff_iff,decide_eq_true_eq];exact tA s),s9⟩
  |exact aO rfl rfl ⟨by rw[eX,decide_eq_false (p:=1≤s.length∧s.length≤12) (by omega),gK],fun M=>al _ _⟩
  |(have QD:s=[]:=Classical.not_not.1 fu
    subst QD;exact aO rfl rfl ⟨rfl,fun M=>al _ _⟩)
theorem FY {s:List UInt8} (h:∀(k:Nat) c,s[k]? =some c→fO c=true):s.all fO=true:=dR.2 fun c hc=>by
 obtain⟨k,hk⟩:=bR.1 hc;exact h k c hk
theorem pG {s:List UInt8} {i:Nat} (h:i<s.length):s[i]? =some (s.getD i 0):=by rw[bH,aK h];rfl
theorem l5 {M:aD} {w:World} {p:Fd} {v:Value} (h:RT.fd.V M w p v):v= .agg #[.string ⟨p.1.toArray⟩,.string ⟨p.2.toArray⟩]:=by
 obtain⟨vs,⟨va,vb,rfl,⟨rfl,_⟩,⟨rfl,_⟩⟩,rfl⟩:=h;rfl
theorem MC {M:aD} {w:World} {p:Fd} {v:Value} (h:RT.fd.V M w p v):p.1.length≤140737488355328∧p.2.length≤140737488355328:=by
 obtain⟨vs,⟨va,vb,rfl,⟨rfl,h1⟩,⟨rfl,h2⟩⟩,_⟩:=h;exact⟨h1,h2⟩
def uO:List Fd→List Fd→Nat→Int
 |_,[],n=>if 500<n then 7 else 0
 |seen,f::fs,n=>if eX f.1=false then 4 else if(seen.any fun g=>decide (g.1=f.1))=true then 5 else if j8 0 (words f.2)≠0 then j8 0 (words f.2)else uO (seen++[f]) fs (n+(words f.2).length)
def lz (d:Dc):Int:=if 8<d.2.length then 7 else uO [] d.2 0
theorem CP {fs:List Fd} {i n:Nat} {x:Fd} (h:fs[i]? =some x):uO (fs.take i) (fs.drop i) n=if eX x.1=false then 4 else if((fs.take i).any fun g=>decide (g.1=x.1))=true then 5 else if j8 0 (words x.2)≠0 then j8 0 (words x.2)else uO (fs.take (i+1)) (fs.drop (i+1)) (n+(words x.2).length):=by
 have dA:=(au.1 h).1;rw[fI dA,(au.1 h).2,cw,h];rfl
theorem pH {fs:List Fd} {i n:Nat} (h:fs.length≤i):uO (fs.take i) (fs.drop i) n=if 500<n then 7 else 0:=by
 rw[ju h];rfl
theorem tB (s:List UInt8) (hs:s.length≤140737488355328) (w0:World):
  Spec Tryz.prog 93 #[.string ⟨s.toArray⟩] w0 (fun v w=>v= .bool (eX s)∧w=w0):=by
 refine aR (args:=[_]) (fn:=Tryz.f93) Tryz.func93 rfl (n:=28) Tryz.ntmps93 (ai (ad (ah rfl rfl (ab (ai (ai (ad (ah rfl rfl (ab (a7 ?_))))))))));refine dd (σ:=Nat) (fun i=>[(0,.string ⟨s.toArray⟩),(3,.int .i64 (i:Int))]) (fun i w=>w=w0∧i≤s.length∧∀k c,k<i→s[k]? =some c→fO c=true) (fun i=>s.length-i) 0 (.cons rfl (.cons rfl .nil)) ?_ ?_
 ·exact⟨rfl,bG _,fun k c h=>absurd h (mM k)⟩
 ·rintro i w ⟨rfl,hi,fY⟩;refine ai (ai (ad (ae rfl rfl (ae rfl rfl (Rg.kN aF rfl rfl (br (v':= .int .i64 (s.length:Int)) (by simp[ByteArray.size]) (bY rfl rfl rfl (ab ?_))))))));refine bK rfl (fun c2=>?_) (fun c2=>?_)
  ·refine aT (ai (a7 (ai (ad (ae rfl rfl (ae rfl rfl (Rg.CF (c:=s.getD i 0) aF rfl rfl rfl (by omega) (by rw[aG];exact pG (by omega)) (bY rfl rfl rfl (ae rfl rfl ?_)))))))));refine aL (g:=14) rfl (fun Wk=>?_) (fun Wk=>?_)
   ·refine ao rfl rfl rfl rfl (ao rfl rfl rfl rfl (ao rfl rfl rfl rfl (ao rfl rfl rfl rfl (aP rfl rfl rfl (ab (kY rfl (ai (ad (ah rfl rfl (ab (aI ?_)))))))))))
    have hx:s.all fO=false:=eF.2 fun h=>by
     have h2:=dR.1 h _ (aN (pG (s:=s) (i:=i) (by omega)));simp only[fO,decide_eq_true_eq]at h2;omega
    exact aO rfl rfl ⟨by rw[eX,hx,Bool.and_false],rfl⟩
   ·refine ak rfl rfl (ae rfl rfl (ak rfl rfl (ae rfl rfl (ak rfl rfl (Rg.CF (c:=s.getD i 0) aF rfl rfl rfl (by omega) (by rw[aG];exact pG (by omega)) (ak rfl rfl (nT rfl rfl rfl (av rfl rfl rfl (ab ?_)))))))));refine bK rfl (fun c4=>?_) (fun c4=>?_)
    ·refine ai (ad (ah rfl rfl (ab (aI ?_))))
     have hx:s.all fO=false:=eF.2 fun h=>by
      have h2:=dR.1 h _ (aN (pG (s:=s) (i:=i) (by omega)));simp only[fO,decide_eq_true_eq]at h2;omega
     exact aO rfl rfl ⟨by rw[eX,hx,Bool.and_false],rfl⟩
    ·refine aT (ad (ae rfl rfl (bA rfl rfl rfl (by omega) (ah rfl rfl (ab ?_)))));refine⟨rfl,i+1,(.cons rfl (.cons rfl .nil)),?_,?_⟩
     ·exact⟨rfl,by omega,fun k c h hc=>by
       rcases ec k i with h2|h2
       ·exact fY k c h2 hc
       ·obtain rfl:k=i:=by omega
        rw[pG (by omega)]at hc;cases hc;simp only[fO,decide_eq_true_eq];omega⟩
     ·omega
  ·refine cB (ai (ad (ae rfl rfl (Rg.kN aF rfl rfl (br (v':= .int .i64 (s.length:Int)) (by simp[ByteArray.size]) (dh rfl rfl rfl (ae rfl rfl ?_)))))));refine aL (g:=23) rfl (fun mG=>?_) (fun mG=>?_)
   ·refine ak rfl rfl (ae rfl rfl (ak rfl rfl (Rg.kN aF rfl rfl (br (v':= .int .i64 (s.length:Int)) (by simp[ByteArray.size]) (ak rfl rfl (fc rfl rfl rfl (aP rfl rfl rfl (ah rfl rfl (ab (aI ?_))))))))));have ha:s.all fO=true:=FY fun k c hc=>fY k c (by have:=(au.1 hc).1;omega) hc
    first
    |exact aO rfl rfl ⟨by rw[eX,ha,ix];exact congrArg Value.bool (decide_eq_decide.2 (by omega)),rfl⟩
    |exact aO rfl rfl ⟨by rw[eX,ha,ix];exact congrArg Value.bool (decide_eq_false (by omega)).symm,rfl⟩
   ·refine ao rfl rfl rfl rfl (ao rfl rfl rfl rfl (ao rfl rfl rfl rfl (av rfl rfl rfl (ah rfl rfl (ab (aI ?_))))));have ha:s.all fO=true:=FY fun k c hc=>fY k c (by have:=(au.1 hc).1;omega) hc
    first
    |exact aO rfl rfl ⟨by rw[eX,ha,ix];exact congrArg Value.bool (decide_eq_decide.2 (by omega)),rfl⟩
    |exact aO rfl rfl ⟨by rw[eX,ha,ix];exact congrArg Value.bool (decide_eq_false (by omega)).symm,rfl⟩
theorem D3 {M:aD} {o:Fd} {v0:Value} (w0:World) (hM:Lt M w0) (hv:RT.fd.V M w0 o v0) {nm:List UInt8} {t:Value} {bf:Nat} (g:w0.heap[bf]? =some (.cells #[.string ⟨nm.toArray⟩,t] 166 (0,0))) (wu:M bf):
  Spec Tryz.prog 131 #[v0,.pointer (some ⟨bf,0,none⟩)] w0 (fun v w=>v= .bool (decide (o.1=nm))∧Step M w0 M w aw):=by
 refine aR (args:=[_,_]) (fn:=Tryz.f131) Tryz.func131 rfl (n:=9) Tryz.ntmps131 ?_;have S:Step M w0 M w0 aw:=(al _ _).bN (fun _ h=>h.elim) (fun _ h=>h.elim);refine ai (ad ?_);refine Rg.ly (A:=RT.fd) rfl rfl hM hv rfl (fun u0 w1 cA s0 _=>?_);have:=aj g;replace wu:=(s0.mem _ this).2 wu;replace g:=s0.aE g;replace hM:=s0.lt hM;have:=S.size;replace S:=S.ax s0;refine ah rfl rfl (ab (ai (ad ?_)));refine aM (M:=M) (A:=RT.fd) (B:=RT.str) bV rfl rfl I9 (by decide) (MB) rfl rfl (by decide) (by assumption) (by repeat (first|exact aq _ _|refine aU (bm (by assumption)) ?_)) (fun uP jC=>?_);refine bZ (M:=M) aF rfl rfl rfl rfl rfl jC (aq _ _) (fun v1 uw=>?_);obtain rfl:=fH uw;refine aB (o':=0) bV rfl rfl I9 (by decide) rfl rfl (az aF rfl rfl rfl (by assumption) rfl (Rg.Co (p:=o.1) (q:=nm) rfl rfl rfl (ah rfl rfl (ab (aI ?_)))));exact aO rfl rfl ⟨rfl,S⟩
theorem By {M:aD} {fs:List Fd} {v0:Value} (w0:World) (hM:Lt M w0) (hv:(RT.fd.sl).V M w0 fs v0) {nm:List UInt8} {t:Value} {bf:Nat} (g:w0.heap[bf]? =some (.cells #[.string ⟨nm.toArray⟩,t] 166 (0,0))) (wu:M bf):
  Spec Tryz.prog 185 #[v0,.func (.func 131) #[] #[.pointer (some ⟨bf,0,none⟩)]] w0 (fun v w=>(∃k:Int,v= .int .i64 k∧(0≤k↔(fs.any fun g=>decide (g.1=nm))=true)∧ -1≤k∧k≤9223372036854775807)∧Step M w0 M w aw):=by
 have Dh:=eR hv;refine aR (args:=[_,_]) (fn:=Tryz.f185) Tryz.func185 rfl (n:=19) Tryz.ntmps185 ?_;have S:Step M w0 M w0 aw:=(al _ _).bN (fun _ h=>h.elim) (fun _ h=>h.elim);refine ai (ad (ah rfl rfl (ab (ai (ai (ad (ae rfl rfl (bM aX rfl hv rfl (ae rfl rfl (ab (a7 ?_)))))))))));refine dd (σ:=Nat) (fun i=>[(0,v0),(1,.func (.func 131) #[] #[.pointer (some ⟨bf,0,none⟩)]),(6,v0),(7,.int .i64 (fs.length:Int)),(8,.int .i64 (i:Int))]) (fun i w=>Lt M w∧Step M w0 M w aw∧(w.heap[bf]? =some (.cells #[.string ⟨nm.toArray⟩,t] 166 (0,0)))∧(RT.fd.sl).V M w fs v0∧i≤fs.length∧∀k o,k<i→fs[k]? =some o→o.1≠nm) (fun i=>fs.length-i) 0 (.cons rfl (.cons rfl (.cons rfl (.cons rfl (.cons rfl .nil))))) ?_ ?_
 ·exact⟨hM,S,g,hv,bG _,fun k c h=>absurd h (mM k)⟩
 ·rintro i w ⟨hM,S,g,hv,hi,fY⟩;refine ai (ad (bY rfl rfl rfl (ab (ai ?_))));refine bK rfl (fun c2=>?_) (fun c2=>?_)
  ·refine aT (ai (a7 (ai (ad (ae rfl rfl (ah rfl rfl (ab (ai (ad (ae rfl rfl (ae rfl rfl ?_)))))))))));refine ae rfl rfl ?_;refine dq (M:=M) aX iL rfl rfl rfl hv (aq _ _) (by omega) (fun u4 o yA ED=>?_);refine cM (M:=M) (A:=RT.fd) bV rfl iL (by decide) rfl rfl rfl ED (aq _ _) (fun v4 pz=>?_);rw[aG]at yA;refine Rg.nY (first:=[]) (captured:=[.pointer (some ⟨bf,0,none⟩)]) rfl rfl rfl UR (D3 _ hM pz g wu) (fun r5 w5 hc=>?_);obtain⟨rfl,s5⟩:=hc;have:=aj g;replace wu:=(s5.mem _ this).2 wu;replace g:=s5.aE g;replace hv:=hv.le s5.le;replace hM:=s5.lt hM;have:=S.size;replace S:=S.ax s5;refine ab ?_;refine bK rfl (fun c4=>?_) (fun c4=>?_)
   ·refine ai (ad (ae rfl rfl (ah rfl rfl (ab (aI ?_)))));exact aO rfl rfl ⟨⟨_,rfl,⟨fun _=>p8.2 ⟨o,aN yA,by simpa using(by assumption)⟩,fun _=>by omega⟩,by omega,by omega⟩,S.back⟩
   ·refine aT (ad (bA rfl rfl rfl (by omega) (ae rfl rfl (ab ?_))));refine⟨rfl,i+1,(.cons rfl (.cons rfl (.cons rfl (.cons rfl (.cons rfl .nil))))),?_,?_⟩
    ·exact⟨hM,S,g,hv,by omega,fun k o' h hc=>by
      rcases ec k i with h2|h2
      ·exact fY k o' h2 hc
      ·obtain rfl:k=i:=by omega
       rw[yA]at hc;cases hc;assumption⟩
    ·omega
  ·refine cB (ai (ad (ah rfl rfl (ab (aI ?_)))))
   exact aO rfl rfl ⟨⟨-1,rfl,⟨fun h=>by omega,fun h=>by
    obtain⟨o,ho,he⟩:=p8.1 h;obtain⟨k,hk⟩:=bR.1 ho;exact absurd (by simpa using he) (fY k o (by have:=(au.1 hk).1;omega) hk)⟩,by omega,by omega⟩,S.back⟩
theorem zu {M:aD} {fs:List Fd} {v0:Value} (w0:World) (hM:Lt M w0) (hv:(RT.fd.sl).V M w0 fs v0) {nm:List UInt8} {t:Value} {bf:Nat} (g:w0.heap[bf]? =some (.cells #[.string ⟨nm.toArray⟩,t] 166 (0,0))) (wu:M bf):
  Spec Tryz.prog 130 #[v0,.func (.func 131) #[] #[.pointer (some ⟨bf,0,none⟩)]] w0 (fun v w=>v= .bool (fs.any fun g=>decide (g.1=nm))∧Step M w0 M w aw):=by
 refine aR (args:=[_,_]) (fn:=Tryz.f130) Tryz.func130 rfl (n:=9) Tryz.ntmps130 ?_;have S:Step M w0 M w0 aw:=(al _ _).bN (fun _ h=>h.elim) (fun _ h=>h.elim);refine ai (ad (ah rfl rfl (ab (ai (ad (ae rfl rfl (ae rfl rfl ?_)))))));refine aJ rfl rfl UZ (By _ hM hv g wu) (fun r1 w1 hc=>?_);obtain⟨⟨k,rfl,hk,_⟩,s1⟩:=hc;have:=aj g;replace wu:=(s1.mem _ this).2 wu;replace g:=s1.aE g;replace hv:=hv.le s1.le;replace hM:=s1.lt hM;have:=S.size;replace S:=S.ax s1;refine dh rfl rfl rfl (ah rfl rfl (ab (aI ?_)));exact aO rfl rfl ⟨congrArg Value.bool (by rw[Bool.eq_iff_iff,decide_eq_true_eq];exact hk),S⟩
theorem FZ {M:aD} {d:Dc} {v0:Value} (w0:World) (hM:Lt M w0) (hv:RT.dc.V M w0 d v0) (hl:∀f∈d.2,f.1.length≤900000∧f.2.length≤900000):
  Spec Tryz.prog 86 #[v0] w0 (fun v w=>v= .int .i64 (lz d)∧Step M w0 M w aw):=by
 have lu:=hM;refine aR (args:=[_]) (fn:=Tryz.f86) Tryz.func86 rfl (n:=49) Tryz.ntmps86 ?_;have S:Step M w0 M w0 aw:=(al _ _).bN (fun _ h=>h.elim) (fun _ h=>h.elim);refine ai (ad ?_);refine Rg.ly (A:=RT.dc) rfl rfl hM hv rfl (fun u0 w1 cA s0 _=>?_);replace hM:=s0.lt hM;have:=S.size;replace S:=S.ax s0;refine ah rfl rfl (ab (ai (ai (ad ?_))));refine aM (M:=M) (A:=RT.dc) (B:=(RT.fd).sl) aS rfl rfl qt (by decide) (D0) rfl rfl (by decide) (by assumption) (by repeat (first|exact aq _ _|refine aU (bm (by assumption)) ?_)) (fun uP jC=>?_);refine bZ (M:=M) aX rfl rfl rfl rfl rfl (by assumption) (by repeat (first|exact aq _ _|refine aU (bm (by assumption)) ?_)) (fun uQ kD=>?_);refine bM aX rfl kD rfl (nT rfl rfl rfl (ab ?_));refine bK rfl (fun c1=>?_) (fun c1=>?_)
 ·refine ai (ad (ah rfl rfl (ab (aI ?_))));exact aO rfl rfl ⟨by rw[lz,if_pos (by omega)],S.back⟩
 ·refine aT (ai (ad (ah rfl rfl (ab (ai (ai (ad ?_)))))));refine aM (M:=M) (A:=RT.dc) (B:=(RT.fd).sl) aS rfl rfl qt (by decide) (D0) rfl rfl (by decide) (by assumption) (by repeat (first|exact aq _ _|refine aU (bm (by assumption)) ?_)) (fun MD CQ=>?_);refine bZ (M:=M) aX rfl rfl rfl rfl rfl (by assumption) (by repeat (first|exact aq _ _|refine aU (bm (by assumption)) ?_)) (fun ME F0=>?_);refine bM aX rfl F0 rfl (ae rfl rfl (ab (a7 ?_)));refine dd (σ:=Nat×Nat) (fun q=>[(1,u0),(3,.int .i64 (q.2:Int)),(13,ME),(14,.int .i64 (d.2.length:Int)),(15,.int .i64 (q.1:Int))]) (fun q w=>∃M',Lt M' w∧Step M w0 M' w aw∧cf RT.dc M' w u0 d∧(RT.fd.sl).V M' w d.2 ME∧lz d=uO (d.2.take q.1) (d.2.drop q.1) q.2∧q.1≤d.2.length∧q.2≤900001*q.1) (fun q=>d.2.length-q.1) (0,0) (.cons rfl (.cons rfl (.cons rfl (.cons rfl (.cons rfl .nil))))) ?_ ?_
  ·exact⟨M,hM,S,cA,F0,by rw[lz,if_neg (by omega)];rfl,bG _,aZ _⟩
  ·rintro⟨i,n⟩ w ⟨M1,hM,S,cA,mT,Bz,hi,hn⟩;dsimp only at Bz hi hn ⊢;refine ai (ad (bY rfl rfl rfl (ab (ai ?_))));refine bK rfl (fun c5=>?_) (fun c5=>?_)
   ·refine aT (ai (a7 (ai (ad (ae rfl rfl ?_)))));refine dq (M:=M1) aX iL rfl rfl rfl mT (aq _ _) (by omega) (fun u6 x AS FQ=>?_);refine cM (M:=M1) (A:=RT.fd) bV rfl iL (by decide) rfl rfl rfl FQ (aq _ _) (fun v6 nw=>?_);rw[aG]at AS;obtain rfl:=l5 nw;have iI:=CP (n:=n) AS;have yI:=hl _ (aN AS);refine ew M1 iL rfl (fun MF Wl adQ adR mG F1=>?_);obtain⟨zw,F2⟩:∃M',M'=ins M1 MF:=⟨_,rfl⟩;rw[←F2]at F1;have j9:zw MF:=by rw[F2];exact .inl rfl
    change Wl.heap[MF]? =some (.cells #[.string ⟨#[]⟩,.string ⟨#[]⟩] _ _)at mG;replace cA:=cA.le (by decide) F1.le;replace mT:=mT.le F1.le;replace hM:=F1.lt hM;have:=S.size;replace S:=S.ax F1;refine ah rfl rfl ?_;refine eP (M:=zw) (vs:=[.string ⟨x.1.toArray⟩,.string ⟨x.2.toArray⟩]) iL rfl rfl (by intro u hu;simp at hu;rcases hu with rfl|rfl<;>rfl) rfl rfl mG j9 (fun w6 g6 s6=>?_);have:=aj mG;replace j9:=(s6.mem _ this).2 j9;replace cA:=cA.le (by decide) s6.le;replace mT:=mT.le s6.le;replace hM:=s6.lt hM;have:=S.size;replace S:=S.trans s6 (fun k hk h=>by have h:_=_:=h;subst h;first|(exfalso;omega)|(show _≤_;omega)|exact⟨by first|omega|assumption,(S.mem _ hk).1 ((s6.mem _ (aj mG)).1 j9)⟩|exact .inl rfl|exact .inr rfl|exact .inr (.inl rfl)|exact .inr (.inr rfl)|exact .inr (.inr (.inl rfl))|exact rfl);have Ko:=g6;clear mG;have mG:=Ko;clear Ko;refine ab (ai (ad (aB (o':=1) bV rfl rfl I9 (by decide) rfl rfl (az aF rfl rfl rfl (by assumption) rfl ?_))));refine aJ rfl rfl UO (DZ _ hM yI.2) (fun r7 w7 hc=>?_);obtain⟨⟨u7,rfl,IB⟩,s7⟩:=hc;have:=aj mG;replace j9:=(s7.mem _ this).2 j9;replace mG:=s7.aE mG;replace cA:=cA.le (by decide) s7.le;replace mT:=mT.le s7.le;replace hM:=s7.lt hM;have:=S.size;replace S:=S.ax s7;refine ae rfl rfl (bu rfl rfl rfl (bu rfl rfl rfl (ah rfl rfl (ah rfl rfl (ab (ai (a7 (ai (ad (aB (o':=0) bV rfl rfl I9 (by decide) rfl rfl (az aF rfl rfl rfl (by assumption) rfl ?_)))))))))));refine aJ rfl rfl UP (D2 x.1 (by omega) _) (fun r8 w8 hc=>?_);obtain⟨rfl,s8_⟩:=hc;have s8:=s8_ zw;have:=aj mG;replace j9:=(s8.mem _ this).2 j9;replace mG:=s8.aE mG;replace cA:=cA.le (by decide) s8.le;replace mT:=mT.le s8.le;replace hM:=s8.lt hM
    have:=S.size;replace S:=S.ax s8;refine km rfl rfl (br (v':= .bool (decide (eX x.1=false))) (by cases eX x.1<;>rfl) (ah rfl rfl (ab ?_)));refine bK rfl (fun c8=>?_) (fun c8=>?_)
    ·refine ai (ad (ah rfl rfl (ab (aI ?_))));exact aO rfl rfl ⟨by rw[Bz,iI,if_pos (by assumption)],S.back⟩
    ·refine ai (ad ?_);refine aM (M:=zw) (A:=RT.dc) (B:=(RT.fd).sl) aS rfl rfl qt (by decide) (D0) rfl rfl (by decide) (by assumption) (by repeat (first|exact aq _ _|refine aU (bm (by assumption)) ?_)) (fun QE MG=>?_);refine bZ (M:=zw) aX rfl rfl rfl rfl rfl (by assumption) (by repeat (first|exact aq _ _|refine aU (bm (by assumption)) ?_)) (fun QF F3=>?_);refine ae rfl rfl ?_;refine Rg.Cq aX iL rfl rfl rfl F3 (by omega) (fun TF QG=>?_);rw[aG]at QG;refine gG (xs:=[]) (ys:=[.tmp 5]) rfl rfl rfl ?_;refine aJ rfl rfl UQ (zu _ hM QG mG j9) (fun r10 TG hc=>?_);obtain⟨rfl,ny⟩:=hc;have:=aj mG;replace j9:=(ny.mem _ this).2 j9;replace mG:=ny.aE mG;replace cA:=cA.le (by decide) ny.le;replace mT:=mT.le ny.le;replace hM:=ny.lt hM;have:=S.size;replace S:=S.ax ny;refine ah rfl rfl (br (v':= .bool (decide (((d.2.take i).any fun g=>decide (g.1=x.1))=true))) (by cases((d.2.take i).any fun g=>decide (g.1=x.1))<;>rfl) (ab ?_));refine bK rfl (fun VT=>?_) (fun VT=>?_)
     ·refine ai (ad (ah rfl rfl (ab (aI ?_))));exact aO rfl rfl ⟨by rw[Bz,iI,if_neg (by assumption),if_pos (by assumption)],S.back⟩
     ·refine ai (ad (ae rfl rfl (eg rfl rfl rfl (ah rfl rfl (ab ?_)))));refine bK rfl (fun Qi=>?_) (fun Qi=>?_)
      ·refine ai (ad (ae rfl rfl (ah rfl rfl (ab (aI ?_)))));exact aO rfl rfl ⟨by rw[Bz,iI,if_neg (by assumption),if_neg (by assumption),if_pos (by assumption)];rfl,S.back⟩
      ·refine aT (ad (ae rfl rfl ?_));have QH:j8 0 (words x.2)=0:=Classical.not_not.1 Qi;obtain⟨a,cap,rfl⟩:=IB QH;have hwl:=nP x.2;refine ae rfl rfl (Rg.nc Tryz.underlying212 rfl rfl (bA rfl rfl rfl (by omega) (ah rfl rfl (ab (ad (bA rfl rfl rfl (by omega) (ae rfl rfl (ab ?_))))))));refine⟨rfl,(i+1,n+(words x.2).length),(.cons rfl (.cons rfl (.cons rfl (.cons rfl (.cons rfl .nil))))),?_,?_⟩
       ·exact⟨_,hM,S,cA,mT,by rw[Bz,iI,if_neg (by assumption),if_neg (by assumption),if_neg Qi],by dsimp only;omega,by dsimp only;omega⟩
       ·dsimp only;omega
   ·refine cB (ai (ai (ad (ae rfl rfl (nT rfl rfl rfl (ab ?_))))));refine bK rfl (fun OU=>?_) (fun OU=>?_)
    ·refine ai (ad (ah rfl rfl (ab (aI ?_))));exact aO rfl rfl ⟨by rw[Bz,pH (by omega),if_pos (by omega)],S.back⟩
    ·refine aT (ai (ad (ah rfl rfl (ab (aI ?_)))));exact aO rfl rfl ⟨by rw[Bz,pH (by omega),if_neg (by omega)],S.back⟩
end Go.K
namespace Go.K
open Go.Proofs
set_option maxRecDepth 10000
theorem wx {M:aD} {d:Dc} {v0:Value} (w0:World) (hM:Lt M w0) (hv:RT.dc.V M w0 d v0) (hl:∀f∈d.2,f.1.length≤900000∧f.2.length≤900000):
  Spec Tryz.prog 94 #[v0] w0 (fun v w=>v= .int .i64 (lz d)∧Step M w0 M w aw):=by
 have lu:=hM;refine aR (args:=[_]) (fn:=Tryz.f94) Tryz.func94 rfl (n:=66) Tryz.ntmps94 ?_;have S:Step M w0 M w0 aw:=(al _ _).bN (fun _ h=>h.elim) (fun _ h=>h.elim);refine ai (ad ?_);refine Rg.ly (A:=RT.dc) rfl rfl hM hv rfl (fun u0 w1 cA s0 _=>?_);replace hM:=s0.lt hM;have:=S.size;replace S:=S.ax s0;refine ah rfl rfl (ab (ai (ai (ad ?_))));refine aM (M:=M) (A:=RT.dc) (B:=(RT.fd).sl) aS rfl rfl qt (by decide) (D0) rfl rfl (by decide) (by assumption) (by repeat (first|exact aq _ _|refine aU (bm (by assumption)) ?_)) (fun uP jC=>?_);refine bZ (M:=M) aX rfl rfl rfl rfl rfl (by assumption) (by repeat (first|exact aq _ _|refine aU (bm (by assumption)) ?_)) (fun uQ kD=>?_);refine bM aX rfl kD rfl (nT rfl rfl rfl (ab ?_));refine bK rfl (fun c1=>?_) (fun c1=>?_)
 ·refine ai (ad (ah rfl rfl (ab (aI ?_))));exact aO rfl rfl ⟨by rw[lz,if_pos (by omega)],S.back⟩
 ·refine aT (ai (ad (ah rfl rfl (ab (ai (ai (ad (ah rfl rfl (ab (a7 ?_))))))))));refine dd (σ:=Nat×Nat) (fun q=>[(1,u0),(3,.int .i64 (q.2:Int)),(4,.int .i64 (q.1:Int))]) (fun q w=>Lt M w∧Step M w0 M w aw∧cf RT.dc M w u0 d∧lz d=uO (d.2.take q.1) (d.2.drop q.1) q.2∧q.1≤d.2.length∧q.2≤900001*q.1∧d.2.length≤8) (fun q=>d.2.length-q.1) (0,0) (.cons rfl (.cons rfl (.cons rfl .nil))) ?_ ?_
  ·exact⟨hM,S,cA,by rw[lz,if_neg (by omega)];rfl,bG _,aZ _,by omega⟩
  ·rintro⟨i,n⟩ w ⟨hM,S,cA,Bz,hi,hn,TH⟩;dsimp only at Bz hi hn ⊢;refine ai (ai (ad (ae rfl rfl ?_)));refine aM (M:=M) (A:=RT.dc) (B:=(RT.fd).sl) aS rfl rfl qt (by decide) (D0) rfl rfl (by decide) (by assumption) (by repeat (first|exact aq _ _|refine aU (bm (by assumption)) ?_)) (fun Wm Kq=>?_);refine bZ (M:=M) aX rfl rfl rfl rfl rfl (by assumption) (by repeat (first|exact aq _ _|refine aU (bm (by assumption)) ?_)) (fun Wn Kr=>?_);refine bM aX rfl Kr rfl (bY rfl rfl rfl (ab ?_));refine bK rfl (fun c5=>?_) (fun c5=>?_)
   ·refine aT (ai (a7 (ai (ad ?_))));refine aM (M:=M) (A:=RT.dc) (B:=(RT.fd).sl) aS rfl rfl qt (by decide) (D0) rfl rfl (by decide) (by assumption) (by repeat (first|exact aq _ _|refine aU (bm (by assumption)) ?_)) (fun QI CR=>?_);refine bZ (M:=M) aX rfl rfl rfl rfl rfl (by assumption) (by repeat (first|exact aq _ _|refine aU (bm (by assumption)) ?_)) (fun Wo Ks=>?_);refine ae rfl rfl ?_;refine dq (M:=M) aX iL rfl rfl rfl Ks (aq _ _) (by omega) (fun adT x zx aag=>?_);rw[aG]at zx;refine aM (M:=M) (A:=RT.fd) (B:=RT.str) bV rfl rfl I9 (by decide) (MB) rfl rfl (by decide) (by assumption) (by repeat (first|exact aq _ _|refine aU (bm (by assumption)) ?_)) (fun adU QK=>?_);refine bZ (M:=M) aF rfl rfl rfl rfl rfl QK (aq _ _) (fun adV QL=>?_);obtain rfl:=fH QL;have iI:=CP (n:=n) zx;have yI:=hl _ (aN zx);refine aJ rfl rfl ZV (tB x.1 (by omega) _) (fun r7 w7 hc=>?_);obtain⟨rfl,rfl⟩:=hc;refine ah rfl rfl (ab (ai (ai (ad (ae rfl rfl (km rfl rfl (br (v':= .bool (decide (eX x.1=false))) (by cases eX x.1<;>rfl) (ab ?_))))))));refine bK rfl (fun c8=>?_) (fun c8=>?_)
    ·refine ai (ad (ah rfl rfl (ab (aI ?_))));exact aO rfl rfl ⟨by rw[Bz,iI,if_pos (by assumption)],S.back⟩
    ·refine aT (ai (ai (ad (ah rfl rfl (ab (a7 ?_))))));refine dd (σ:=Nat) (fun j=>[(1,u0),(3,.int .i64 (n:Int)),(4,.int .i64 (i:Int)),(6,.int .i64 (j:Int))]) (fun j w=>Lt M w∧Step M w0 M w aw∧cf RT.dc M w u0 d∧j≤i∧∀k y,k<j→d.2[k]? =some y→y.1≠x.1) (fun j=>i-j) 0 (.cons rfl (.cons rfl (.cons rfl (.cons rfl .nil)))) ?_ ?_
     ·exact⟨hM,S,cA,bG _,fun k c h=>absurd h (mM k)⟩
     ·rintro j w ⟨hM,S,cA,hj,kx⟩;refine ai (ai (ad (ae rfl rfl (ae rfl rfl (bY rfl rfl rfl (ab ?_))))));refine bK rfl (fun Mf=>?_) (fun Mf=>?_)
      ·refine aT (ai (a7 (ai ?_)));apply T.kO mixed rfl rfl;intro MH MI;have l6:=MI M;replace cA:=cA.le (by decide) l6.le;replace hM:=l6.lt hM;have:=S.size;replace S:=S.ax l6;refine aM (M:=M) (A:=RT.dc) (B:=(RT.fd).sl) aS rfl rfl qt (by decide) (D0) rfl rfl (by decide) (by assumption) (by repeat (first|exact aq _ _|refine aU (bm (by assumption)) ?_)) (fun aah Wp=>?_);refine ab ⟨rfl,rfl,rfl,?_⟩;refine bZ (M:=M) aX rfl rfl rfl rfl rfl (by assumption) (by repeat (first|exact aq _ _|refine aU (bm (by assumption)) ?_)) (fun aai MJ=>?_);refine ab ⟨rfl,rfl,rfl,?_⟩;refine ae rfl rfl ?_;refine ab ⟨rfl,rfl,rfl,?_⟩;refine dq (M:=M) aX iL rfl rfl rfl MJ (aq _ _) (by omega) (fun Ku y BA eU=>?_);rw[aG]at BA;refine ab ⟨rfl,rfl,rfl,?_⟩;refine aM (M:=M) (A:=RT.fd) (B:=RT.str) bV rfl rfl I9 (by decide) (MB) rfl rfl (by decide) (by assumption) (by repeat (first|exact aq _ _|refine aU (bm (by assumption)) ?_)) (fun eY MK=>?_);refine ab ⟨rfl,rfl,rfl,?_⟩;refine bZ (M:=M) aF rfl rfl rfl rfl rfl MK (aq _ _) (fun Kv xW=>?_);obtain rfl:=fH xW;refine ab ⟨rfl,rfl,rfl,?_⟩;refine aM (M:=M) (A:=RT.dc) (B:=(RT.fd).sl) aS rfl rfl qt (by decide) (D0) rfl rfl (by decide) (by assumption) (by repeat (first|exact aq _ _|refine aU (bm (by assumption)) ?_)) (fun Kw F4=>?_);refine ab ⟨rfl,rfl,rfl,?_⟩;refine bZ (M:=M) aX rfl rfl rfl rfl rfl (by assumption) (by repeat (first|exact aq _ _|refine aU (bm (by assumption)) ?_)) (fun aaj ML=>?_);refine ab ⟨rfl,rfl,rfl,?_⟩;refine ae rfl rfl ?_;refine ab ⟨rfl,rfl,rfl,?_⟩;refine dq (M:=M) aX iL rfl rfl rfl ML (aq _ _) (by omega) (fun aak z F5 Wq=>?_)
       rw[aG]at F5;refine ab ⟨rfl,rfl,rfl,?_⟩;refine aM (M:=M) (A:=RT.fd) (B:=RT.str) bV rfl rfl I9 (by decide) (MB) rfl rfl (by decide) (by assumption) (by repeat (first|exact aq _ _|refine aU (bm (by assumption)) ?_)) (fun Wr IS=>?_);refine ab ⟨rfl,rfl,rfl,?_⟩;refine bZ (M:=M) aF rfl rfl rfl rfl rfl IS (aq _ _) (fun Ws IT=>?_);obtain rfl:=fH IT;refine ab ⟨rfl,rfl,rfl,?_⟩;refine Rg.Co (p:=y.1) (q:=z.1) rfl rfl rfl ?_;obtain rfl:x=z:=bU (zx.symm.trans F5);refine ab ⟨rfl,rfl,rfl,?_⟩;refine fo ?_;refine bK rfl (fun F6=>?_) (fun F6=>?_)
       ·refine ai (ad (ah rfl rfl (ab (aI ?_))));have F7:((d.2.take i).any fun g=>decide (g.1=x.1))=true:=p8.2 ⟨y,aN (i:=j) (by rw[dm,if_pos (by omega)];exact BA),by simpa using(by assumption)⟩;exact aO rfl rfl ⟨by rw[Bz,iI,if_neg (by assumption),if_pos F7],S.back⟩
       ·refine aT (ad (ae rfl rfl (bA rfl rfl rfl (by omega) (ah rfl rfl (ab ?_)))));refine⟨rfl,j+1,(.cons rfl (.cons rfl (.cons rfl (.cons rfl .nil)))),?_,?_⟩
        ·exact⟨hM,S,cA,by omega,fun k y' h hc=>by
          rcases ec k j with h2|h2
          ·exact kx k y' h2 hc
          ·obtain rfl:k=j:=by omega
           rw[BA]at hc;cases hc;assumption⟩
        ·omega
      ·refine cB (ai (ad ?_));refine aM (M:=M) (A:=RT.dc) (B:=(RT.fd).sl) aS rfl rfl qt (by decide) (D0) rfl rfl (by decide) (by assumption) (by repeat (first|exact aq _ _|refine aU (bm (by assumption)) ?_)) (fun aal Wt=>?_);refine bZ (M:=M) aX rfl rfl rfl rfl rfl (by assumption) (by repeat (first|exact aq _ _|refine aU (bm (by assumption)) ?_)) (fun aam MM=>?_);refine ae rfl rfl ?_;refine dq (M:=M) aX iL rfl rfl rfl MM (aq _ _) (by omega) (fun aan z F8 Wu=>?_);rw[aG]at F8;refine aM (M:=M) (A:=RT.fd) (B:=RT.str) bV rfl rfl I9 (by decide) (TD) rfl rfl (by decide) (by assumption) (by repeat (first|exact aq _ _|refine aU (bm (by assumption)) ?_)) (fun aao MN=>?_);refine bZ (M:=M) aF rfl rfl rfl rfl rfl MN (aq _ _) (fun aap MO=>?_);obtain rfl:=fH MO;obtain rfl:x=z:=bU (zx.symm.trans F8);refine aJ rfl rfl UX (Bw _ hM yI.2) (fun Wv MP hc=>?_);obtain⟨⟨u15,rfl,Ww⟩,qC⟩:=hc;replace cA:=cA.le (by decide) qC.le;replace hM:=qC.lt hM;have:=S.size;replace S:=S.ax qC;refine ae rfl rfl (bu rfl rfl rfl (bu rfl rfl rfl (ah rfl rfl (ah rfl rfl (ab (ai (ai (ad (ae rfl rfl (eg rfl rfl rfl (ab ?_)))))))))));refine bK rfl (fun OU=>?_) (fun OU=>?_)
       ·refine ai (ad (ae rfl rfl (ah rfl rfl (ab (aI ?_)))))
        have F7:((d.2.take i).any fun g=>decide (g.1=x.1))=false:=eF.2 fun h=>by
         obtain⟨y,hy,he⟩:=p8.1 h;obtain⟨k,hk⟩:=bR.1 hy;rw[dm]at hk
         split at hk
         ·exact kx k y (by omega) hk (by simpa using he)
         ·cases hk
        exact aO rfl rfl ⟨by rw[Bz,iI,if_neg (by assumption),if_neg (by rw[F7];simp),if_pos OU];rfl,S.back⟩
       ·refine aT (ad (ae rfl rfl ?_));have QH:j8 0 (words x.2)=0:=Classical.not_not.1 OU;obtain⟨a,cap,rfl⟩:=Ww QH;have hwl:=nP x.2;refine ae rfl rfl (Rg.nc Tryz.underlying212 rfl rfl (bA rfl rfl rfl (by omega) (ah rfl rfl (ab (ad (ae rfl rfl (bA rfl rfl rfl (by omega) (ah rfl rfl (ab ?_)))))))))
        have F7:((d.2.take i).any fun g=>decide (g.1=x.1))=false:=eF.2 fun h=>by
         obtain⟨y,hy,he⟩:=p8.1 h;obtain⟨k,hk⟩:=bR.1 hy;rw[dm]at hk
         split at hk
         ·exact kx k y (by omega) hk (by simpa using he)
         ·cases hk
        refine⟨rfl,(i+1,n+(words x.2).length),(.cons rfl (.cons rfl (.cons rfl .nil))),?_,?_⟩
        ·exact⟨hM,S,cA,by rw[Bz,iI,if_neg (by assumption),if_neg (by rw[F7];simp),if_neg OU],by dsimp only;omega,by dsimp only;omega,TH⟩
        ·dsimp only;omega
   ·refine cB (ai (ai (ad (ae rfl rfl (nT rfl rfl rfl (ab ?_))))));refine bK rfl (fun P5=>?_) (fun P5=>?_)
    ·refine ai (ad (ah rfl rfl (ab (aI ?_))));exact aO rfl rfl ⟨by rw[Bz,pH (by omega),if_pos (by omega)],S.back⟩
    ·refine aT (ai (ad (ah rfl rfl (ab (aI ?_)))));exact aO rfl rfl ⟨by rw[Bz,pH (by omega),if_neg (by omega)],S.back⟩
def zy:List (List UInt8):=[[116],[117],[118],[119]]
def fixF (i:Nat) (x:Fd):Fd:=(if eX x.1=true then x.1 else zy.getD i [],x.2.take 40)
def lA (id:Int):Nat→List Fd→List Fd→List Fd
 |_,out,[]=>out
 |i,out,x::fs=>if i<4 then(if lz (id,out++[fixF i x])=0 then lA id (i+1) (out++[fixF i x]) fs else lA id (i+1) out fs)else out
def mu (d:Dc):Dc:=(d.1,lA d.1 0 [] d.2)
def oW (l:List Fd):Prop:=∀x∈l,x.1.length≤12∧x.2.length≤40
theorem zz {s:List UInt8} (h:eX s=true):s.length≤12:=by
 simp only[eX,bD,decide_eq_true_eq]at h;omega
theorem tC {i:Nat} (x:Fd) (hi:i<4):(fixF i x).1.length≤12∧(fixF i x).2.length≤40:=by
 refine⟨?_,by simp only[fixF,bS];omega⟩;unfold fixF;dsimp only
 split
 ·exact zz (by assumption)
 ·have h:i=0∨i=1∨i=2∨i=3:=by omega
  rcases h with rfl|rfl|rfl|rfl<;>decide
theorem oW.snoc {l:List Fd} {x:Fd} (h:oW l) (hx:x.1.length≤12∧x.2.length≤40):oW (l++[x]):=fun y hy=>by
 rcases dC.1 hy with hy|hy
 ·exact h y hy
 ·rw[cC.1 hy];exact hx
theorem F9 {id:Int} {fs:List Fd} {i:Nat} {out:List Fd} {x:Fd} (h:fs[i]? =some x) (hi:i<4):lA id i out (fs.drop i)=if lz (id,out++[fixF i x])=0 then lA id (i+1) (out++[fixF i x]) (fs.drop (i+1))else lA id (i+1) out (fs.drop (i+1)):=by
 have dA:=(au.1 h).1;rw[fI dA,(au.1 h).2];show(if i<4 then _ else _)=_;rw[if_pos hi]
theorem wy {id:Int} {fs:List Fd} {i:Nat} {out:List Fd} (h:fs.length≤i∨4≤i):lA id i out (fs.drop i)=out:=by
 cases hd:fs.drop i with
 |nil=>rfl
 |cons x r=>
  show(if i<4 then _ else _)=_;rw[if_neg];rcases h with h|h
  ·rw[ju h]at hd;cases hd
  ·omega
theorem zA (l:List UInt8):l.take (min (l.length:Int) 40).toNat=l.take 40:=by
 by_cases h:l.length≤40
 ·rw[bT (by omega),bT h]
 ·congr 1;omega
theorem D4 {M:aD} {d:Dc} {v0:Value} (w0:World) (hM:Lt M w0) (hv:RT.dc.V M w0 d v0):
  Spec Tryz.prog 44 #[v0] w0 (fun v w=>RT.dc.V M w (mu d) v∧Step M w0 M w aw):=by
 have lu:=hM
 have TL: -9223372036854775808≤d.1∧d.1≤9223372036854775807:=by
  obtain⟨vs,⟨va,vb,_,⟨_,h1,h2⟩,_⟩,_⟩:=hv;exact⟨h1,h2⟩
 refine aR (args:=[_]) (fn:=Tryz.f44) Tryz.func44 rfl (n:=67) Tryz.ntmps44 ?_;have S:Step M w0 M w0 aw:=(al _ _).bN (fun _ h=>h.elim) (fun _ h=>h.elim);refine ai (ad ?_);refine Rg.ly (A:=RT.dc) rfl rfl hM hv rfl (fun u0 w1 cA s0 _=>?_);replace hM:=s0.lt hM;have:=S.size;replace S:=S.ax s0;refine ew M lY rfl (fun l7 BB MQ MR eV kS=>?_);obtain⟨ej,ka⟩:∃M',M'=ins M l7:=⟨_,rfl⟩;rw[←ka]at kS;have dV:ej l7:=by rw[ka];exact .inl rfl
 change BB.heap[l7]? =some (.cells #[.int .i64 0,.slice none 0 0] _ _)at eV;replace cA:=cA.le (by decide) kS.le;replace hM:=kS.lt hM;have:=S.size;replace S:=S.ax kS;refine ab (ai (ad ?_));refine aM (M:=ej) (A:=RT.dc) (B:=RT.int .i64) aS rfl rfl I3 (by decide) (QB) rfl rfl (by decide) (by assumption) (by repeat (first|exact aq _ _|refine aU (bm (by assumption)) ?_)) (fun uP jC=>?_);refine cn (M:=ej) an rfl rfl (by assumption) (by repeat (first|exact aq _ _|refine aU (bm (by assumption)) ?_)) (fun Kx=>?_);refine dO (places:=[(0,1),(1,1)]) aS lY Tu rfl ⟨_,_,rfl,rfl,rfl⟩ (out:=[_,.slice none 0 0]) ⟨0,[_],rfl,rfl,by simp[Value.cells],rfl⟩ ?_;refine ew ej lY rfl (fun jq uI L8 L9 eC s1_3=>?_);obtain⟨jr,nz⟩:∃M',M'=ins ej jq:=⟨_,rfl⟩;rw[←nz]at s1_3;have fv:jr jq:=by rw[nz];exact .inl rfl
 change uI.heap[jq]? =some (.cells #[.int .i64 0,.slice none 0 0] _ _)at eC;have:=aj eV;replace dV:=(s1_3.mem _ this).2 dV;replace eV:=s1_3.aE eV;replace cA:=cA.le (by decide) s1_3.le;replace hM:=s1_3.lt hM;have:=S.size;replace S:=S.ax s1_3;refine eP (M:=jr) (vs:=[.int .i64 d.1,.slice none 0 0]) lY rfl rfl (by intro u hu;simp at hu;rcases hu with rfl|rfl<;>first|rfl|exact j0 (by assumption) rfl rfl) rfl rfl eC fv (fun w1b Wx MS=>?_);have:=aj eV;replace dV:=(MS.mem _ this).2 dV;replace eV:=MS.bB eV (fun hk=>by have hk:_=_:=hk;omega);have:=aj eC;replace fv:=(MS.mem _ this).2 fv;replace cA:=cA.le (by decide) MS.le;replace hM:=MS.lt hM;have:=S.size;replace S:=S.trans MS (fun k hk h=>by have h:_=_:=h;subst h;first|(exfalso;omega)|(show _≤_;omega)|exact⟨by first|omega|assumption,(S.mem _ hk).1 ((MS.mem _ (aj eC)).1 fv)⟩|exact .inl rfl|exact .inr rfl|exact .inr (.inl rfl)|exact .inr (.inr rfl)|exact .inr (.inr (.inl rfl))|exact rfl);have nj:=Wx;clear eC;have eC:=nj;clear nj;refine ab (ai (ad ?_));refine Rg.Tf (A:=RT.str) (hn:=by decide) (M:=jr) (xs:=zy) aV I9 rfl (by decide) rfl ⟨_,_,_,rfl,rfl,rfl,jP.2 ⟨rfl,by decide⟩,_,_,_,rfl,rfl,rfl,jP.2 ⟨rfl,by decide⟩,_,_,_,rfl,rfl,rfl,jP.2 ⟨rfl,by decide⟩,_,_,_,rfl,rfl,rfl,jP.2 ⟨rfl,by decide⟩,rfl⟩ rfl hM (.inr ⟨rfl,rfl⟩) (by decide) (fun u2 w2 cR s2=>?_);have:=aj eV;replace dV:=(s2.mem _ this).2 dV;replace eV:=s2.aE eV;have:=aj eC;replace fv:=(s2.mem _ this).2 fv;replace eC:=s2.aE eC;replace cA:=cA.le (by decide) s2.le;replace hM:=s2.lt hM;have:=S.size;replace S:=S.ax s2;refine ah rfl rfl (ab (ai (ai (ad (ah rfl rfl (ab (a7 ?_)))))));refine dd (σ:=Nat×List Fd) (fun q=>[(1,u0),(2,.pointer (some ⟨l7,0,none⟩)),(3,.pointer (some ⟨jq,0,none⟩)),(4,u2),(5,.int .i64 (q.1:Int))]) (fun q w=>∃M' uo,Lt M' w∧Step M w0 M' w aw∧cf RT.dc M' w u0 d∧(RT.str.sl).V M' w zy u2∧w.heap[l7]? =some (.cells #[.int .i64 0,.slice none 0 0] 69 (0,0))∧M' l7∧w.heap[jq]? =some (.cells #[.int .i64 d.1,uo] 69 (0,0))∧M' jq∧(RT.fd.sl).V M' w q.2 uo∧lA d.1 0 [] d.2=lA d.1 q.1 q.2 (d.2.drop q.1)∧q.1≤d.2.length∧q.1≤4∧oW q.2∧q.2.length≤q.1) (fun q=>d.2.length-q.1) (0,[]) (.cons rfl (.cons rfl (.cons rfl (.cons rfl (.cons rfl .nil))))) ?_ ?_
 ·exact⟨_,.slice none 0 0,hM,S,cA,cR,eV,dV,eC,fv,fZ,rfl,bG _,bG _,(fun x hx=>by cases hx),aZ _⟩
 ·rintro⟨i,out⟩ w ⟨M1,uo,hM,S,cA,cR,g2,cK,g3,dU,gV,tw,hi,Wy,yE,o2⟩;dsimp only at g3 gV tw hi Wy yE o2 ⊢;refine ai (ai (ad (ae rfl rfl ?_)));refine aM (M:=M1) (A:=RT.dc) (B:=(RT.fd).sl) aS rfl rfl qt (by decide) (D0) rfl rfl (by decide) (by assumption) (by repeat (first|exact aq _ _|refine aU (bm (by assumption)) ?_)) (fun Wf aaq=>?_);refine bZ (M:=M1) aX rfl rfl rfl rfl rfl (by assumption) (by repeat (first|exact aq _ _|refine aU (bm (by assumption)) ?_)) (fun adW QM=>?_);refine bM aX rfl QM rfl (bY rfl rfl rfl (ae rfl rfl ?_));refine aL (g:=18) rfl (fun MT=>?_) (fun MT=>?_)
  ·refine ak rfl rfl (ae rfl rfl (ak rfl rfl (bY rfl rfl rfl (aP rfl rfl rfl (ab ?_)))));refine bK rfl (fun c4=>?_) (fun c4=>?_)
   ·refine aT (ai (a7 (ai (ad ?_))));refine aM (M:=M1) (A:=RT.dc) (B:=(RT.fd).sl) aS rfl rfl qt (by decide) (D0) rfl rfl (by decide) (by assumption) (by repeat (first|exact aq _ _|refine aU (bm (by assumption)) ?_)) (fun QN Ga=>?_);refine bZ (M:=M1) aX rfl rfl rfl rfl rfl (by assumption) (by repeat (first|exact aq _ _|refine aU (bm (by assumption)) ?_)) (fun MU tD=>?_);refine ae rfl rfl ?_;refine dq (M:=M1) aX iL rfl rfl rfl tD (aq _ _) (by omega) (fun u6 x AS FQ=>?_);rw[aG]at AS;have Te:i<4:=by omega
    have TM:=F9 (id:=d.1) (out:=out) AS Te;have Ky:=tC x Te;refine cM (M:=M1) (A:=RT.fd) bV rfl iL (by decide) rfl rfl rfl FQ (aq _ _) (fun v6 nw=>?_);obtain rfl:=l5 nw;have hxb:=MC nw;refine ew M1 iL rfl (fun MV Wz adY adZ cU uR=>?_);obtain⟨kb,Gb⟩:∃M',M'=ins M1 MV:=⟨_,rfl⟩;rw[←Gb]at uR;have cv:kb MV:=by rw[Gb];exact .inl rfl
    change Wz.heap[MV]? =some (.cells #[.string ⟨#[]⟩,.string ⟨#[]⟩] _ _)at cU;have:=aj g2;replace cK:=(uR.mem _ this).2 cK;replace g2:=uR.aE g2;have:=aj g3;replace dU:=(uR.mem _ this).2 dU;replace g3:=uR.aE g3;replace cA:=cA.le (by decide) uR.le;replace cR:=cR.le uR.le;replace gV:=gV.le uR.le;replace hM:=uR.lt hM;have:=S.size;replace S:=S.ax uR;refine eP (M:=kb) (vs:=[.string ⟨x.1.toArray⟩,.string ⟨x.2.toArray⟩]) iL rfl rfl (by intro u hu;simp at hu;rcases hu with rfl|rfl<;>first|rfl|exact j0 (by assumption) rfl rfl) rfl rfl cU cv (fun w6b WA Gc=>?_);have:=aj g2;replace cK:=(Gc.mem _ this).2 cK;replace g2:=Gc.bB g2 (fun hk=>by have hk:_=_:=hk;omega);have:=aj g3;replace dU:=(Gc.mem _ this).2 dU;replace g3:=Gc.bB g3 (fun hk=>by have hk:_=_:=hk;omega);have:=aj cU;replace cv:=(Gc.mem _ this).2 cv;replace cA:=cA.le (by decide) Gc.le;replace cR:=cR.le Gc.le;replace gV:=gV.le Gc.le;replace hM:=Gc.lt hM;have:=S.size;replace S:=S.trans Gc (fun k hk h=>by have h:_=_:=h;subst h;first|(exfalso;omega)|(show _≤_;omega)|exact⟨by first|omega|assumption,(S.mem _ hk).1 ((Gc.mem _ (aj cU)).1 cv)⟩|exact .inl rfl|exact .inr rfl|exact .inr (.inl rfl)|exact .inr (.inr rfl)|exact .inr (.inr (.inl rfl))|exact rfl);have nA:=WA;clear cU;have cU:=nA;clear nA;refine ab (ai (ad (aB (o':=0) bV rfl rfl I9 (by decide) rfl rfl (az aF rfl rfl rfl (by assumption) rfl ?_))));refine aJ rfl rfl ZV (tB x.1 hxb.1 _) (fun r7 w7 hc=>?_);obtain⟨rfl,rfl⟩:=hc;refine ah rfl rfl (ab (ai (ai (ad (ae rfl rfl (km rfl rfl (br (v':= .bool (decide (eX x.1=false))) (by cases eX x.1<;>rfl) (ab ?_))))))));refine bK rfl (fun c8=>?_) (fun c8=>?_)
    ·refine ad (ae rfl rfl (ae rfl rfl ?_));refine dq (M:=kb) aV I9 rfl rfl rfl cR (aq _ _) (by have:zy.length=4:=rfl;omega) (fun u9 y Kz WB=>?_);rw[aG]at Kz;refine bZ (M:=kb) aF rfl rfl rfl rfl rfl WB (aq _ _) (fun v9 IU=>?_);obtain rfl:=fH IU
     obtain rfl:y=(fixF i x).1:=by
      show y=if eX x.1=true then x.1 else zy.getD i []
      rw[if_neg (by rw[c8];simp),bH,Kz];rfl
     refine aB (o':=0) bV rfl rfl I9 (by decide) rfl rfl ?_;refine bL (M:=kb) I9 rfl rfl cU rfl (rfl) cv (fun Qx QO nv=>?_);change Qx.heap[_]? =some (Obj.cells #[.string ⟨((fixF i x).1).toArray⟩,.string ⟨x.2.toArray⟩] _ _)at QO;have:=aj g2;replace cK:=(nv.mem _ this).2 cK;replace g2:=nv.bB g2 (fun hk=>by have hk:_=_:=hk;omega);have:=aj g3;replace dU:=(nv.mem _ this).2 dU;replace g3:=nv.bB g3 (fun hk=>by have hk:_=_:=hk;omega);have:=aj cU;replace cv:=(nv.mem _ this).2 cv;replace cA:=cA.le (by decide) nv.le;replace cR:=cR.le nv.le;replace gV:=gV.le nv.le;replace hM:=nv.lt hM;have:=S.size;replace S:=S.trans nv (fun k hk h=>by have h:_=_:=h;subst h;first|(exfalso;omega)|(show _≤_;omega)|exact⟨by first|omega|assumption,(S.mem _ hk).1 ((nv.mem _ (aj cU)).1 cv)⟩|exact .inl rfl|exact .inr rfl|exact .inr (.inl rfl)|exact .inr (.inr rfl)|exact .inr (.inr (.inl rfl))|exact rfl);have nA:=QO;clear cU;have cU:=nA;clear nA;refine ab (ai (ad (aB (o':=1) bV rfl rfl I9 (by decide) rfl rfl (az aF rfl rfl rfl (by assumption) rfl (aB (o':=1) bV rfl rfl I9 (by decide) rfl rfl (az aF rfl rfl rfl (by assumption) rfl (Rg.kN aF rfl rfl (br (v':= .int .i64 (x.2.length:Int)) (by simp[ByteArray.size]) (Rg.min2 rfl rfl rfl (Rg.Kd aF rfl rfl rfl (by omega) (br (v':= .string ⟨((fixF i x).2).toArray⟩) (by rw[zA];rfl) ?_)))))))))));refine aB (o':=1) bV rfl rfl I9 (by decide) rfl rfl ?_;refine bL (M:=kb) I9 rfl rfl cU rfl (rfl) cv (fun CO zB fm=>?_);change CO.heap[_]? =some (Obj.cells #[.string ⟨((fixF i x).1).toArray⟩,.string ⟨((fixF i x).2).toArray⟩] _ _)at zB;have:=aj g2;replace cK:=(fm.mem _ this).2 cK;replace g2:=fm.bB g2 (fun hk=>by have hk:_=_:=hk;omega)
     have:=aj g3;replace dU:=(fm.mem _ this).2 dU;replace g3:=fm.bB g3 (fun hk=>by have hk:_=_:=hk;omega);have:=aj cU;replace cv:=(fm.mem _ this).2 cv;replace cA:=cA.le (by decide) fm.le;replace cR:=cR.le fm.le;replace gV:=gV.le fm.le;replace hM:=fm.lt hM;have:=S.size;replace S:=S.trans fm (fun k hk h=>by have h:_=_:=h;subst h;first|(exfalso;omega)|(show _≤_;omega)|exact⟨by first|omega|assumption,(S.mem _ hk).1 ((fm.mem _ (aj cU)).1 cv)⟩|exact .inl rfl|exact .inr rfl|exact .inr (.inl rfl)|exact .inr (.inr rfl)|exact .inr (.inr (.inl rfl))|exact rfl);have nA:=zB;clear cU;have cU:=nA;clear nA;refine ab (ai (ad ?_));refine aM (M:=kb) (A:=RT.dc) (B:=RT.int .i64) aS rfl rfl I3 (by decide) (QB) rfl rfl (by decide) (by assumption) (by repeat (first|exact aq _ _|refine aU (bm (by assumption)) ?_)) (fun KA Gd=>?_);refine cn (M:=kb) an rfl rfl (by assumption) (by repeat (first|exact aq _ _|refine aU (bm (by assumption)) ?_)) (fun MW=>?_);refine dO (places:=[(0,1),(1,1)]) aS lY Tu rfl ⟨_,_,rfl,rfl,rfl⟩ (out:=[_,.slice none 0 0]) ⟨0,[_],rfl,rfl,by simp[Value.cells],rfl⟩ ?_;refine ew kb lY rfl (fun tF sV QP QQ cj ep=>?_);obtain⟨oX,pI⟩:∃M',M'=ins kb tF:=⟨_,rfl⟩;rw[←pI]at ep;have ck:oX tF:=by rw[pI];exact .inl rfl
     change sV.heap[tF]? =some (.cells #[.int .i64 0,.slice none 0 0] _ _)at cj;have:=aj g2;replace cK:=(ep.mem _ this).2 cK;replace g2:=ep.aE g2;have:=aj g3;replace dU:=(ep.mem _ this).2 dU;replace g3:=ep.aE g3;have:=aj cU;replace cv:=(ep.mem _ this).2 cv;replace cU:=ep.aE cU;replace cA:=cA.le (by decide) ep.le;replace cR:=cR.le ep.le;replace gV:=gV.le ep.le;replace hM:=ep.lt hM;have:=S.size;replace S:=S.ax ep;refine eP (M:=oX) (vs:=[.int .i64 d.1,.slice none 0 0]) lY rfl rfl (by intro u hu;simp at hu;rcases hu with rfl|rfl<;>first|rfl|exact j0 (by assumption) rfl rfl) rfl rfl cj ck (fun xX Ge iW=>?_);have:=aj g2;replace cK:=(iW.mem _ this).2 cK;replace g2:=iW.bB g2 (fun hk=>by have hk:_=_:=hk;omega);have:=aj g3;replace dU:=(iW.mem _ this).2 dU;replace g3:=iW.bB g3 (fun hk=>by have hk:_=_:=hk;omega);have:=aj cU;replace cv:=(iW.mem _ this).2 cv;replace cU:=iW.bB cU (fun hk=>by have hk:_=_:=hk;omega);have:=aj cj;replace ck:=(iW.mem _ this).2 ck;replace cA:=cA.le (by decide) iW.le;replace cR:=cR.le iW.le;replace gV:=gV.le iW.le;replace hM:=iW.lt hM;have:=S.size;replace S:=S.trans iW (fun k hk h=>by have h:_=_:=h;subst h;first|(exfalso;omega)|(show _≤_;omega)|exact⟨by first|omega|assumption,(S.mem _ hk).1 ((iW.mem _ (aj cj)).1 ck)⟩|exact .inl rfl|exact .inr rfl|exact .inr (.inl rfl)|exact .inr (.inr rfl)|exact .inr (.inr (.inl rfl))|exact rfl);have gC:=Ge;clear cj;have cj:=gC;clear gC;refine ab (ai (ad (aB (o':=1) aS rfl rfl qt (by decide) rfl rfl (az aX rfl rfl rfl (by assumption) rfl (aB (o':=1) aS rfl rfl qt (by decide) rfl rfl (az aX rfl rfl rfl (by assumption) rfl ?_))))));have cG:=Own.Kn RT.fd 166 xX.heap.size hM
     have WC:=aj cU;have Gf:w0.heap.size≤xX.heap.size:=S.size;refine cQ (M:=oX) (base:=xX.heap.size) aX iL rfl rfl rfl rfl cG gV (aq _ _) (by simp;omega) (by simp;omega) (aZ _) (fun tx nu FU oV dT=>?_);have:=aj g2;replace cK:=(dT.mem _ this).2 cK;replace g2:=dT.bB g2 (fun h=>by first|exact cG.dF g2 h|exact cG.ef g2 (by decide) h|(have:=(cG.base _ h).1;omega));have:=aj g3;replace dU:=(dT.mem _ this).2 dU;replace g3:=dT.bB g3 (fun h=>by first|exact cG.dF g3 h|exact cG.ef g3 (by decide) h|(have:=(cG.base _ h).1;omega));have:=aj cU;replace cv:=(dT.mem _ this).2 cv;replace cU:=dT.bB cU (fun h=>by first|exact cG.dF cU h|exact cG.ef cU (by decide) h|(have:=(cG.base _ h).1;omega));have:=aj cj;replace ck:=(dT.mem _ this).2 ck;replace cj:=dT.bB cj (fun h=>by first|exact cG.dF cj h|exact cG.ef cj (by decide) h|(have:=(cG.base _ h).1;omega));replace cA:=cA.le (by decide) dT.le;replace cR:=cR.le dT.le;replace gV:=gV.le dT.le;replace hM:=dT.lt hM;have:=S.size;replace S:=S.dE dT cG Gf;replace cG:=oV;refine aB (o':=1) aS rfl rfl qt (by decide) rfl rfl ?_;refine bL (M:=nu) qt rfl rfl cj rfl ((by obtain⟨_,_,he,_⟩:=cG.isSlice;rw[he];rfl)) ck (fun Gg zC fh=>?_);change Gg.heap[_]? =some (Obj.cells #[.int .i64 d.1,tx] _ _)at zC;have:=aj g2;replace cK:=(fh.mem _ this).2 cK;replace g2:=fh.bB g2 (fun hk=>by have hk:_=_:=hk;omega);have:=aj g3;replace dU:=(fh.mem _ this).2 dU;replace g3:=fh.bB g3 (fun hk=>by have hk:_=_:=hk;omega);have:=aj cU;replace cv:=(fh.mem _ this).2 cv;replace cU:=fh.bB cU (fun hk=>by have hk:_=_:=hk;omega);have:=aj cj;replace ck:=(fh.mem _ this).2 ck
     replace cA:=cA.le (by decide) fh.le;replace cR:=cR.le fh.le;replace gV:=gV.le fh.le;replace cG:=cG.step fh (fun b hb hk=>by have hk:_=_:=hk;have:=(cG.base b hb);omega);replace hM:=fh.lt hM;have:=S.size;replace S:=S.trans fh (fun k hk h=>by have h:_=_:=h;subst h;first|(exfalso;omega)|(show _≤_;omega)|exact⟨by first|omega|assumption,(S.mem _ hk).1 ((fh.mem _ (aj cj)).1 ck)⟩|exact .inl rfl|exact .inr rfl|exact .inr (.inl rfl)|exact .inr (.inr rfl)|exact .inr (.inr (.inl rfl))|exact rfl);have gC:=zC;clear cj;have cj:=gC;clear gC;refine ab (ai (ad (aB (o':=1) aS rfl rfl qt (by decide) rfl rfl (az aX rfl rfl rfl (by assumption) rfl (fX (vs:=[.string ⟨((fixF i x).1).toArray⟩,.string ⟨((fixF i x).2).toArray⟩]) bV rfl iL rfl rfl rfl cU ?_)))));refine fa (A:=RT.fd) (hn:=by decide) (M:=nu) aX iL (by decide) rfl rfl hM (show RT.fd.V _ _ (fixF i x) _ from eA (jP.2 ⟨rfl,fS Ky.1 (by decide)⟩) (jP.2 ⟨rfl,fS Ky.2 (by decide)⟩) rfl rfl rfl rfl) (.inl rfl) (fun Ku QR eU fi=>?_);have:=aj g2;replace cK:=(fi.mem _ this).2 cK;replace g2:=fi.aE g2;have:=aj g3;replace dU:=(fi.mem _ this).2 dU;replace g3:=fi.aE g3;have:=aj cU;replace cv:=(fi.mem _ this).2 cv;replace cU:=fi.aE cU;have:=aj cj;replace ck:=(fi.mem _ this).2 ck;replace cj:=fi.aE cj;replace cA:=cA.le (by decide) fi.le;replace cR:=cR.le fi.le;replace gV:=gV.le fi.le;replace cG:=cG.aW fi;replace hM:=fi.lt hM;have:=S.size;replace S:=S.ax fi;refine cQ (M:=nu) (base:=xX.heap.size) aX iL rfl rfl rfl rfl cG eU (aq _ _) (by simp;omega) (by simp;omega) (by have:=dT.size;have:=fh.size;have:=fi.size;omega) (fun eY kc QS BC fC=>?_)
     have:=aj g2;replace cK:=(fC.mem _ this).2 cK;replace g2:=fC.bB g2 (fun h=>by first|exact cG.dF g2 h|exact cG.ef g2 (by decide) h|(have:=(cG.base _ h).1;omega));have:=aj g3;replace dU:=(fC.mem _ this).2 dU;replace g3:=fC.bB g3 (fun h=>by first|exact cG.dF g3 h|exact cG.ef g3 (by decide) h|(have:=(cG.base _ h).1;omega));have:=aj cU;replace cv:=(fC.mem _ this).2 cv;replace cU:=fC.bB cU (fun h=>by first|exact cG.dF cU h|exact cG.ef cU (by decide) h|(have:=(cG.base _ h).1;omega));have:=aj cj;replace ck:=(fC.mem _ this).2 ck;replace cj:=fC.bB cj (fun h=>by first|exact cG.dF cj h|exact cG.ef cj (by decide) h|(have:=(cG.base _ h).1;omega));replace cA:=cA.le (by decide) fC.le;replace cR:=cR.le fC.le;replace gV:=gV.le fC.le;replace eU:=eU.le fC.le;replace hM:=fC.lt hM;have:=S.size;replace S:=S.dE fC cG Gf;replace cG:=BC;refine aB (o':=1) aS rfl rfl qt (by decide) rfl rfl ?_;refine bL (M:=kc) qt rfl rfl cj rfl ((by obtain⟨_,_,he,_⟩:=cG.isSlice;rw[he];rfl)) ck (fun Gh zD fj=>?_);change Gh.heap[_]? =some (Obj.cells #[.int .i64 d.1,eY] _ _)at zD;have:=aj g2;replace cK:=(fj.mem _ this).2 cK;replace g2:=fj.bB g2 (fun hk=>by have hk:_=_:=hk;omega);have:=aj g3;replace dU:=(fj.mem _ this).2 dU;replace g3:=fj.bB g3 (fun hk=>by have hk:_=_:=hk;omega);have:=aj cU;replace cv:=(fj.mem _ this).2 cv;replace cU:=fj.bB cU (fun hk=>by have hk:_=_:=hk;omega);have:=aj cj;replace ck:=(fj.mem _ this).2 ck;replace cA:=cA.le (by decide) fj.le;replace cR:=cR.le fj.le;replace gV:=gV.le fj.le;replace eU:=eU.le fj.le;replace cG:=cG.step fj (fun b hb hk=>by have hk:_=_:=hk;have:=(cG.base b hb);omega);replace hM:=fj.lt hM
     have:=S.size;replace S:=S.trans fj (fun k hk h=>by have h:_=_:=h;subst h;first|(exfalso;omega)|(show _≤_;omega)|exact⟨by first|omega|assumption,(S.mem _ hk).1 ((fj.mem _ (aj cj)).1 ck)⟩|exact .inl rfl|exact .inr rfl|exact .inr (.inl rfl)|exact .inr (.inr rfl)|exact .inr (.inr (.inl rfl))|exact rfl);have gC:=zD;clear cj;have cj:=gC;clear gC;refine ab (ai (ad (fX (vs:=[.int .i64 d.1,eY]) aS rfl lY rfl rfl rfl cj ?_)));have rN:=cG.view (hn:=by decide) (by simp;omega);replace cK:rm kc eY _:=⟨cK,by first|exact cG.ef g2 (by decide)|(intro h;have:=(cG.base _ h).1;omega)⟩;replace dU:rm kc eY _:=⟨dU,by first|exact cG.ef g3 (by decide)|(intro h;have:=(cG.base _ h).1;omega)⟩;replace cv:rm kc eY _:=⟨cv,by first|exact cG.ef cU (by decide)|(intro h;have:=(cG.base _ h).1;omega)⟩;replace ck:rm kc eY _:=⟨ck,by first|exact cG.ef cj (by decide)|(intro h;have:=(cG.base _ h).1;omega)⟩;replace cA:=cA.le (by decide) (o9 _ eY _);replace cR:=cR.le (o9 _ eY _);replace gV:=gV.le (o9 _ eY _);replace eU:=eU.le (o9 _ eY _);replace hM:Lt (rm kc eY) _:=fun b hb=>hM b hb.1
     replace S:=S.freeze (v:=eY) (fun b hb=>by have:=(cG.base b hb).1;omega);clear cG;refine aJ rfl rfl ZW (wx (d:=(d.1,[]++out++[fixF i x])) _ hM (eA (gu TL) rN rfl rfl rfl rfl) (fun y hy=>by have:=(yE.snoc Ky) y (by simpa using hy);omega)) (fun r14 MX hc=>?_);obtain⟨rfl,ij⟩:=hc;rw[rU]at rN;have:=aj g2;replace cK:=(ij.mem _ this).2 cK;replace g2:=ij.aE g2;have:=aj g3;replace dU:=(ij.mem _ this).2 dU;replace g3:=ij.aE g3;have:=aj cU;replace cv:=(ij.mem _ this).2 cv;replace cU:=ij.aE cU;have:=aj cj;replace ck:=(ij.mem _ this).2 ck;replace cj:=ij.aE cj;replace cA:=cA.le (by decide) ij.le;replace cR:=cR.le ij.le;replace gV:=gV.le ij.le;replace eU:=eU.le ij.le;replace rN:=rN.le ij.le;replace hM:=ij.lt hM;have:=S.size;replace S:=S.ax ij;refine jD rfl rfl rfl (br (v':= .bool (decide (lz (d.1,out++[fixF i x])=0))) (by rw[rU]) (ab ?_));refine bK rfl (fun MY=>?_) (fun MY=>?_)
     ·refine ad (fX (vs:=[.int .i64 d.1,eY]) aS rfl lY rfl rfl rfl cj ?_);refine eP (M:=rm kc eY) (vs:=[.int .i64 d.1,eY]) lY rfl rfl (by intro u hu;simp at hu;rcases hu with rfl|rfl<;>first|rfl|exact j0 (by assumption) rfl rfl) rfl rfl g3 dU (fun WD Gi gJ=>?_);have:=aj g2;replace cK:=(gJ.mem _ this).2 cK;replace g2:=gJ.bB g2 (fun hk=>by have hk:_=_:=hk;omega);have:=aj g3;replace dU:=(gJ.mem _ this).2 dU;have:=aj cU;replace cv:=(gJ.mem _ this).2 cv;replace cU:=gJ.bB cU (fun hk=>by have hk:_=_:=hk;omega);have:=aj cj;replace ck:=(gJ.mem _ this).2 ck;replace cj:=gJ.bB cj (fun hk=>by have hk:_=_:=hk;omega);replace cA:=cA.le (by decide) gJ.le;replace cR:=cR.le gJ.le;replace gV:=gV.le gJ.le;replace eU:=eU.le gJ.le;replace rN:=rN.le gJ.le;replace hM:=gJ.lt hM;have:=S.size;replace S:=S.trans gJ (fun k hk h=>by have h:_=_:=h;subst h;first|(exfalso;omega)|(show _≤_;omega)|exact⟨by first|omega|assumption,(S.mem _ hk).1 ((gJ.mem _ (aj g3)).1 dU)⟩|exact .inl rfl|exact .inr rfl|exact .inr (.inl rfl)|exact .inr (.inr rfl)|exact .inr (.inr (.inl rfl))|exact rfl);have QT:=Gi;clear g3;have g3:=QT;clear QT;refine ab (ad (ae rfl rfl (bA rfl rfl rfl (by omega) (ah rfl rfl (ab ?_)))));refine⟨rfl,(i+1,out++[fixF i x]),(.cons rfl (.cons rfl (.cons rfl (.cons rfl (.cons rfl .nil))))),?_,?_⟩
      ·exact⟨_,_,hM,S,cA,cR,g2,cK,g3,dU,rN,by rw[tw,TM,if_pos MY],by dsimp only;omega,by dsimp only;omega,yE.snoc Ky,by simp;omega⟩
      ·dsimp only;omega
     ·refine aT (ad (ae rfl rfl (bA rfl rfl rfl (by omega) (ah rfl rfl (ab ?_)))));refine⟨rfl,(i+1,out),(.cons rfl (.cons rfl (.cons rfl (.cons rfl (.cons rfl .nil))))),?_,?_⟩
      ·exact⟨_,_,hM,S,cA,cR,g2,cK,g3,dU,gV,by rw[tw,TM,if_neg MY],by dsimp only;omega,by dsimp only;omega,yE,by dsimp only;omega⟩
      ·dsimp only;omega
    ·rw[show x.1=(fixF i x).1 from by show x.1=if eX x.1=true then x.1 else _;rw[if_pos (by cases hq:eX x.1 with|true=>rfl|false=>exact absurd hq c8)]]at cU;refine aT (ai (ad (aB (o':=1) bV rfl rfl I9 (by decide) rfl rfl (az aF rfl rfl rfl (by assumption) rfl (aB (o':=1) bV rfl rfl I9 (by decide) rfl rfl (az aF rfl rfl rfl (by assumption) rfl (Rg.kN aF rfl rfl (br (v':= .int .i64 (x.2.length:Int)) (by simp[ByteArray.size]) (Rg.min2 rfl rfl rfl (Rg.Kd aF rfl rfl rfl (by omega) (br (v':= .string ⟨((fixF i x).2).toArray⟩) (by rw[zA];rfl) ?_)))))))))));refine aB (o':=1) bV rfl rfl I9 (by decide) rfl rfl ?_;refine bL (M:=kb) I9 rfl rfl cU rfl (rfl) cv (fun CO zB fm=>?_);change CO.heap[_]? =some (Obj.cells #[.string ⟨((fixF i x).1).toArray⟩,.string ⟨((fixF i x).2).toArray⟩] _ _)at zB;have:=aj g2;replace cK:=(fm.mem _ this).2 cK;replace g2:=fm.bB g2 (fun hk=>by have hk:_=_:=hk;omega);have:=aj g3;replace dU:=(fm.mem _ this).2 dU;replace g3:=fm.bB g3 (fun hk=>by have hk:_=_:=hk;omega);have:=aj cU;replace cv:=(fm.mem _ this).2 cv;replace cA:=cA.le (by decide) fm.le;replace cR:=cR.le fm.le;replace gV:=gV.le fm.le;replace hM:=fm.lt hM;have:=S.size;replace S:=S.trans fm (fun k hk h=>by have h:_=_:=h;subst h;first|(exfalso;omega)|(show _≤_;omega)|exact⟨by first|omega|assumption,(S.mem _ hk).1 ((fm.mem _ (aj cU)).1 cv)⟩|exact .inl rfl|exact .inr rfl|exact .inr (.inl rfl)|exact .inr (.inr rfl)|exact .inr (.inr (.inl rfl))|exact rfl);have nA:=zB;clear cU;have cU:=nA;clear nA;refine ab (ai (ad ?_));refine aM (M:=kb) (A:=RT.dc) (B:=RT.int .i64) aS rfl rfl I3 (by decide) (QB) rfl rfl (by decide) (by assumption) (by repeat (first|exact aq _ _|refine aU (bm (by assumption)) ?_)) (fun KA Gd=>?_)
     refine cn (M:=kb) an rfl rfl (by assumption) (by repeat (first|exact aq _ _|refine aU (bm (by assumption)) ?_)) (fun MW=>?_);refine dO (places:=[(0,1),(1,1)]) aS lY Tu rfl ⟨_,_,rfl,rfl,rfl⟩ (out:=[_,.slice none 0 0]) ⟨0,[_],rfl,rfl,by simp[Value.cells],rfl⟩ ?_;refine ew kb lY rfl (fun tF sV QP QQ cj ep=>?_);obtain⟨oX,pI⟩:∃M',M'=ins kb tF:=⟨_,rfl⟩;rw[←pI]at ep;have ck:oX tF:=by rw[pI];exact .inl rfl
     change sV.heap[tF]? =some (.cells #[.int .i64 0,.slice none 0 0] _ _)at cj;have:=aj g2;replace cK:=(ep.mem _ this).2 cK;replace g2:=ep.aE g2;have:=aj g3;replace dU:=(ep.mem _ this).2 dU;replace g3:=ep.aE g3;have:=aj cU;replace cv:=(ep.mem _ this).2 cv;replace cU:=ep.aE cU;replace cA:=cA.le (by decide) ep.le;replace cR:=cR.le ep.le;replace gV:=gV.le ep.le;replace hM:=ep.lt hM;have:=S.size;replace S:=S.ax ep;refine eP (M:=oX) (vs:=[.int .i64 d.1,.slice none 0 0]) lY rfl rfl (by intro u hu;simp at hu;rcases hu with rfl|rfl<;>first|rfl|exact j0 (by assumption) rfl rfl) rfl rfl cj ck (fun xX Ge iW=>?_);have:=aj g2;replace cK:=(iW.mem _ this).2 cK;replace g2:=iW.bB g2 (fun hk=>by have hk:_=_:=hk;omega);have:=aj g3;replace dU:=(iW.mem _ this).2 dU;replace g3:=iW.bB g3 (fun hk=>by have hk:_=_:=hk;omega);have:=aj cU;replace cv:=(iW.mem _ this).2 cv;replace cU:=iW.bB cU (fun hk=>by have hk:_=_:=hk;omega);have:=aj cj;replace ck:=(iW.mem _ this).2 ck;replace cA:=cA.le (by decide) iW.le;replace cR:=cR.le iW.le;replace gV:=gV.le iW.le;replace hM:=iW.lt hM;have:=S.size;replace S:=S.trans iW (fun k hk h=>by have h:_=_:=h;subst h;first|(exfalso;omega)|(show _≤_;omega)|exact⟨by first|omega|assumption,(S.mem _ hk).1 ((iW.mem _ (aj cj)).1 ck)⟩|exact .inl rfl|exact .inr rfl|exact .inr (.inl rfl)|exact .inr (.inr rfl)|exact .inr (.inr (.inl rfl))|exact rfl);have gC:=Ge;clear cj;have cj:=gC;clear gC;refine ab (ai (ad (aB (o':=1) aS rfl rfl qt (by decide) rfl rfl (az aX rfl rfl rfl (by assumption) rfl (aB (o':=1) aS rfl rfl qt (by decide) rfl rfl (az aX rfl rfl rfl (by assumption) rfl ?_))))));have cG:=Own.Kn RT.fd 166 xX.heap.size hM
     have WC:=aj cU;have Gf:w0.heap.size≤xX.heap.size:=S.size;refine cQ (M:=oX) (base:=xX.heap.size) aX iL rfl rfl rfl rfl cG gV (aq _ _) (by simp;omega) (by simp;omega) (aZ _) (fun tx nu FU oV dT=>?_);have:=aj g2;replace cK:=(dT.mem _ this).2 cK;replace g2:=dT.bB g2 (fun h=>by first|exact cG.dF g2 h|exact cG.ef g2 (by decide) h|(have:=(cG.base _ h).1;omega));have:=aj g3;replace dU:=(dT.mem _ this).2 dU;replace g3:=dT.bB g3 (fun h=>by first|exact cG.dF g3 h|exact cG.ef g3 (by decide) h|(have:=(cG.base _ h).1;omega));have:=aj cU;replace cv:=(dT.mem _ this).2 cv;replace cU:=dT.bB cU (fun h=>by first|exact cG.dF cU h|exact cG.ef cU (by decide) h|(have:=(cG.base _ h).1;omega));have:=aj cj;replace ck:=(dT.mem _ this).2 ck;replace cj:=dT.bB cj (fun h=>by first|exact cG.dF cj h|exact cG.ef cj (by decide) h|(have:=(cG.base _ h).1;omega));replace cA:=cA.le (by decide) dT.le;replace cR:=cR.le dT.le;replace gV:=gV.le dT.le;replace hM:=dT.lt hM;have:=S.size;replace S:=S.dE dT cG Gf;replace cG:=oV;refine aB (o':=1) aS rfl rfl qt (by decide) rfl rfl ?_;refine bL (M:=nu) qt rfl rfl cj rfl ((by obtain⟨_,_,he,_⟩:=cG.isSlice;rw[he];rfl)) ck (fun Gg zC fh=>?_);change Gg.heap[_]? =some (Obj.cells #[.int .i64 d.1,tx] _ _)at zC;have:=aj g2;replace cK:=(fh.mem _ this).2 cK;replace g2:=fh.bB g2 (fun hk=>by have hk:_=_:=hk;omega);have:=aj g3;replace dU:=(fh.mem _ this).2 dU;replace g3:=fh.bB g3 (fun hk=>by have hk:_=_:=hk;omega);have:=aj cU;replace cv:=(fh.mem _ this).2 cv;replace cU:=fh.bB cU (fun hk=>by have hk:_=_:=hk;omega);have:=aj cj;replace ck:=(fh.mem _ this).2 ck
     replace cA:=cA.le (by decide) fh.le;replace cR:=cR.le fh.le;replace gV:=gV.le fh.le;replace cG:=cG.step fh (fun b hb hk=>by have hk:_=_:=hk;have:=(cG.base b hb);omega);replace hM:=fh.lt hM;have:=S.size;replace S:=S.trans fh (fun k hk h=>by have h:_=_:=h;subst h;first|(exfalso;omega)|(show _≤_;omega)|exact⟨by first|omega|assumption,(S.mem _ hk).1 ((fh.mem _ (aj cj)).1 ck)⟩|exact .inl rfl|exact .inr rfl|exact .inr (.inl rfl)|exact .inr (.inr rfl)|exact .inr (.inr (.inl rfl))|exact rfl);have gC:=zC;clear cj;have cj:=gC;clear gC;refine ab (ai (ad (aB (o':=1) aS rfl rfl qt (by decide) rfl rfl (az aX rfl rfl rfl (by assumption) rfl (fX (vs:=[.string ⟨((fixF i x).1).toArray⟩,.string ⟨((fixF i x).2).toArray⟩]) bV rfl iL rfl rfl rfl cU ?_)))));refine fa (A:=RT.fd) (hn:=by decide) (M:=nu) aX iL (by decide) rfl rfl hM (show RT.fd.V _ _ (fixF i x) _ from eA (jP.2 ⟨rfl,fS Ky.1 (by decide)⟩) (jP.2 ⟨rfl,fS Ky.2 (by decide)⟩) rfl rfl rfl rfl) (.inl rfl) (fun Ku QR eU fi=>?_);have:=aj g2;replace cK:=(fi.mem _ this).2 cK;replace g2:=fi.aE g2;have:=aj g3;replace dU:=(fi.mem _ this).2 dU;replace g3:=fi.aE g3;have:=aj cU;replace cv:=(fi.mem _ this).2 cv;replace cU:=fi.aE cU;have:=aj cj;replace ck:=(fi.mem _ this).2 ck;replace cj:=fi.aE cj;replace cA:=cA.le (by decide) fi.le;replace cR:=cR.le fi.le;replace gV:=gV.le fi.le;replace cG:=cG.aW fi;replace hM:=fi.lt hM;have:=S.size;replace S:=S.ax fi;refine cQ (M:=nu) (base:=xX.heap.size) aX iL rfl rfl rfl rfl cG eU (aq _ _) (by simp;omega) (by simp;omega) (by have:=dT.size;have:=fh.size;have:=fi.size;omega) (fun eY kc QS BC fC=>?_)
     have:=aj g2;replace cK:=(fC.mem _ this).2 cK;replace g2:=fC.bB g2 (fun h=>by first|exact cG.dF g2 h|exact cG.ef g2 (by decide) h|(have:=(cG.base _ h).1;omega));have:=aj g3;replace dU:=(fC.mem _ this).2 dU;replace g3:=fC.bB g3 (fun h=>by first|exact cG.dF g3 h|exact cG.ef g3 (by decide) h|(have:=(cG.base _ h).1;omega));have:=aj cU;replace cv:=(fC.mem _ this).2 cv;replace cU:=fC.bB cU (fun h=>by first|exact cG.dF cU h|exact cG.ef cU (by decide) h|(have:=(cG.base _ h).1;omega));have:=aj cj;replace ck:=(fC.mem _ this).2 ck;replace cj:=fC.bB cj (fun h=>by first|exact cG.dF cj h|exact cG.ef cj (by decide) h|(have:=(cG.base _ h).1;omega));replace cA:=cA.le (by decide) fC.le;replace cR:=cR.le fC.le;replace gV:=gV.le fC.le;replace eU:=eU.le fC.le;replace hM:=fC.lt hM;have:=S.size;replace S:=S.dE fC cG Gf;replace cG:=BC;refine aB (o':=1) aS rfl rfl qt (by decide) rfl rfl ?_;refine bL (M:=kc) qt rfl rfl cj rfl ((by obtain⟨_,_,he,_⟩:=cG.isSlice;rw[he];rfl)) ck (fun Gh zD fj=>?_);change Gh.heap[_]? =some (Obj.cells #[.int .i64 d.1,eY] _ _)at zD;have:=aj g2;replace cK:=(fj.mem _ this).2 cK;replace g2:=fj.bB g2 (fun hk=>by have hk:_=_:=hk;omega);have:=aj g3;replace dU:=(fj.mem _ this).2 dU;replace g3:=fj.bB g3 (fun hk=>by have hk:_=_:=hk;omega);have:=aj cU;replace cv:=(fj.mem _ this).2 cv;replace cU:=fj.bB cU (fun hk=>by have hk:_=_:=hk;omega);have:=aj cj;replace ck:=(fj.mem _ this).2 ck;replace cA:=cA.le (by decide) fj.le;replace cR:=cR.le fj.le;replace gV:=gV.le fj.le;replace eU:=eU.le fj.le;replace cG:=cG.step fj (fun b hb hk=>by have hk:_=_:=hk;have:=(cG.base b hb);omega);replace hM:=fj.lt hM
     have:=S.size;replace S:=S.trans fj (fun k hk h=>by have h:_=_:=h;subst h;first|(exfalso;omega)|(show _≤_;omega)|exact⟨by first|omega|assumption,(S.mem _ hk).1 ((fj.mem _ (aj cj)).1 ck)⟩|exact .inl rfl|exact .inr rfl|exact .inr (.inl rfl)|exact .inr (.inr rfl)|exact .inr (.inr (.inl rfl))|exact rfl);have gC:=zD;clear cj;have cj:=gC;clear gC;refine ab (ai (ad (fX (vs:=[.int .i64 d.1,eY]) aS rfl lY rfl rfl rfl cj ?_)));have rN:=cG.view (hn:=by decide) (by simp;omega);replace cK:rm kc eY _:=⟨cK,by first|exact cG.ef g2 (by decide)|(intro h;have:=(cG.base _ h).1;omega)⟩;replace dU:rm kc eY _:=⟨dU,by first|exact cG.ef g3 (by decide)|(intro h;have:=(cG.base _ h).1;omega)⟩;replace cv:rm kc eY _:=⟨cv,by first|exact cG.ef cU (by decide)|(intro h;have:=(cG.base _ h).1;omega)⟩;replace ck:rm kc eY _:=⟨ck,by first|exact cG.ef cj (by decide)|(intro h;have:=(cG.base _ h).1;omega)⟩;replace cA:=cA.le (by decide) (o9 _ eY _);replace cR:=cR.le (o9 _ eY _);replace gV:=gV.le (o9 _ eY _);replace eU:=eU.le (o9 _ eY _);replace hM:Lt (rm kc eY) _:=fun b hb=>hM b hb.1
     replace S:=S.freeze (v:=eY) (fun b hb=>by have:=(cG.base b hb).1;omega);clear cG;refine aJ rfl rfl ZW (wx (d:=(d.1,[]++out++[fixF i x])) _ hM (eA (gu TL) rN rfl rfl rfl rfl) (fun y hy=>by have:=(yE.snoc Ky) y (by simpa using hy);omega)) (fun r14 MX hc=>?_);obtain⟨rfl,ij⟩:=hc;rw[rU]at rN;have:=aj g2;replace cK:=(ij.mem _ this).2 cK;replace g2:=ij.aE g2;have:=aj g3;replace dU:=(ij.mem _ this).2 dU;replace g3:=ij.aE g3;have:=aj cU;replace cv:=(ij.mem _ this).2 cv;replace cU:=ij.aE cU;have:=aj cj;replace ck:=(ij.mem _ this).2 ck;replace cj:=ij.aE cj;replace cA:=cA.le (by decide) ij.le;replace cR:=cR.le ij.le;replace gV:=gV.le ij.le;replace eU:=eU.le ij.le;replace rN:=rN.le ij.le;replace hM:=ij.lt hM;have:=S.size;replace S:=S.ax ij;refine jD rfl rfl rfl (br (v':= .bool (decide (lz (d.1,out++[fixF i x])=0))) (by rw[rU]) (ab ?_));refine bK rfl (fun MY=>?_) (fun MY=>?_)
     ·refine ad (fX (vs:=[.int .i64 d.1,eY]) aS rfl lY rfl rfl rfl cj ?_);refine eP (M:=rm kc eY) (vs:=[.int .i64 d.1,eY]) lY rfl rfl (by intro u hu;simp at hu;rcases hu with rfl|rfl<;>first|rfl|exact j0 (by assumption) rfl rfl) rfl rfl g3 dU (fun WD Gi gJ=>?_);have:=aj g2;replace cK:=(gJ.mem _ this).2 cK;replace g2:=gJ.bB g2 (fun hk=>by have hk:_=_:=hk;omega);have:=aj g3;replace dU:=(gJ.mem _ this).2 dU;have:=aj cU;replace cv:=(gJ.mem _ this).2 cv;replace cU:=gJ.bB cU (fun hk=>by have hk:_=_:=hk;omega);have:=aj cj;replace ck:=(gJ.mem _ this).2 ck;replace cj:=gJ.bB cj (fun hk=>by have hk:_=_:=hk;omega);replace cA:=cA.le (by decide) gJ.le;replace cR:=cR.le gJ.le;replace gV:=gV.le gJ.le;replace eU:=eU.le gJ.le;replace rN:=rN.le gJ.le;replace hM:=gJ.lt hM;have:=S.size;replace S:=S.trans gJ (fun k hk h=>by have h:_=_:=h;subst h;first|(exfalso;omega)|(show _≤_;omega)|exact⟨by first|omega|assumption,(S.mem _ hk).1 ((gJ.mem _ (aj g3)).1 dU)⟩|exact .inl rfl|exact .inr rfl|exact .inr (.inl rfl)|exact .inr (.inr rfl)|exact .inr (.inr (.inl rfl))|exact rfl);have QT:=Gi;clear g3;have g3:=QT;clear QT;refine ab (ad (ae rfl rfl (bA rfl rfl rfl (by omega) (ah rfl rfl (ab ?_)))));refine⟨rfl,(i+1,out++[fixF i x]),(.cons rfl (.cons rfl (.cons rfl (.cons rfl (.cons rfl .nil))))),?_,?_⟩
      ·exact⟨_,_,hM,S,cA,cR,g2,cK,g3,dU,rN,by rw[tw,TM,if_pos MY],by dsimp only;omega,by dsimp only;omega,yE.snoc Ky,by simp;omega⟩
      ·dsimp only;omega
     ·refine aT (ad (ae rfl rfl (bA rfl rfl rfl (by omega) (ah rfl rfl (ab ?_)))));refine⟨rfl,(i+1,out),(.cons rfl (.cons rfl (.cons rfl (.cons rfl (.cons rfl .nil))))),?_,?_⟩
      ·exact⟨_,_,hM,S,cA,cR,g2,cK,g3,dU,gV,by rw[tw,TM,if_neg MY],by dsimp only;omega,by dsimp only;omega,yE,by dsimp only;omega⟩
      ·dsimp only;omega
   ·refine cB (ai (ad (fX (vs:=[.int .i64 d.1,uo]) aS rfl lY rfl rfl rfl g3 ?_)));refine eP (M:=M1) (vs:=[.int .i64 d.1,uo]) lY rfl rfl (by intro u hu;simp at hu;rcases hu with rfl|rfl<;>first|rfl|exact j0 (by assumption) rfl rfl) rfl rfl g2 cK (fun WE Gj l8=>?_);have:=aj g2;replace cK:=(l8.mem _ this).2 cK;have:=aj g3;replace dU:=(l8.mem _ this).2 dU;replace g3:=l8.bB g3 (fun hk=>by have hk:_=_:=hk;omega);replace cA:=cA.le (by decide) l8.le;replace cR:=cR.le l8.le;replace gV:=gV.le l8.le;replace hM:=l8.lt hM;have:=S.size;replace S:=S.trans l8 (fun k hk h=>by have h:_=_:=h;subst h;first|(exfalso;omega)|(show _≤_;omega)|exact⟨by first|omega|assumption,(S.mem _ hk).1 ((l8.mem _ (aj g2)).1 cK)⟩|exact .inl rfl|exact .inr rfl|exact .inr (.inl rfl)|exact .inr (.inr rfl)|exact .inr (.inr (.inl rfl))|exact rfl);have Gk:=Gj;clear g2;have g2:=Gk;clear Gk;refine ab (aI ?_);have e:mu d=(d.1,out):=by rw[mu,tw,wy (by omega)]
    rw[e];refine xz (vs:=[.int .i64 d.1,uo]) rfl rfl aS rfl lY rfl g2 ⟨eA (gu TL) (gV.le (Le.close lu S)) rfl rfl rfl rfl,S.back⟩
  ·refine ao rfl rfl rfl rfl (ao rfl rfl rfl rfl (av rfl rfl rfl (ab (fL rfl (cB (ai (ad (fX (vs:=[.int .i64 d.1,uo]) aS rfl lY rfl rfl rfl g3 ?_))))))));refine eP (M:=M1) (vs:=[.int .i64 d.1,uo]) lY rfl rfl (by intro u hu;simp at hu;rcases hu with rfl|rfl<;>first|rfl|exact j0 (by assumption) rfl rfl) rfl rfl g2 cK (fun WE Gj l8=>?_);have:=aj g2;replace cK:=(l8.mem _ this).2 cK;have:=aj g3;replace dU:=(l8.mem _ this).2 dU;replace g3:=l8.bB g3 (fun hk=>by have hk:_=_:=hk;omega);replace cA:=cA.le (by decide) l8.le;replace cR:=cR.le l8.le;replace gV:=gV.le l8.le;replace hM:=l8.lt hM;have:=S.size;replace S:=S.trans l8 (fun k hk h=>by have h:_=_:=h;subst h;first|(exfalso;omega)|(show _≤_;omega)|exact⟨by first|omega|assumption,(S.mem _ hk).1 ((l8.mem _ (aj g2)).1 cK)⟩|exact .inl rfl|exact .inr rfl|exact .inr (.inl rfl)|exact .inr (.inr rfl)|exact .inr (.inr (.inl rfl))|exact rfl);have Gk:=Gj;clear g2;have g2:=Gk;clear Gk;refine ab (aI ?_);have e:mu d=(d.1,out):=by rw[mu,tw,wy (by omega)]
   rw[e];refine xz (vs:=[.int .i64 d.1,uo]) rfl rfl aS rfl lY rfl g2 ⟨eA (gu TL) (gV.le (Le.close lu S)) rfl rfl rfl rfl,S.back⟩
end Go.K
namespace Go.K
open Go.Proofs
set_option maxRecDepth 10000
def gD (l:List Dc) (from_ step:Int):Nat→List En
 |0=>[]
 |k+1=>gD l from_ step k++(match l[k]? with|some d=>[(mu d,from_+step*(k:Int))]|none=>[])
theorem jK (l:List Dc) (a s:Int):∀k,(gD l a s k).length=min k l.length
 |0=>by simp[gD]
 |k+1=>by
  rw[gD,bP,jK l a s k]
  cases h:l[k]? with
  |none=>have:=List.getElem?_eq_none_iff.1 h;simp;omega
  |some d=>have:=(au.1 h).1;simp;omega
theorem tG {l:List Dc} {a s:Int} {k:Nat} {d:Dc} (h:l[k]? =some d):gD l a s (k+1)=gD l a s k++[(mu d,a+s*(k:Int))]:=by rw[gD,h]
theorem tH {l:List Dc} {a s:Int} {k:Nat} (h:l.length≤k):gD l a s (k+1)=gD l a s k:=by
 rw[gD,List.getElem?_eq_none_iff.2 h];simp
theorem zE {l:List Dc} {a s:Int} {n i:Nat} (h:l.length≤i∨n≤i) (h1:i≤n):gD l a s i=gD l a s n:=by
 induction n with
 |zero=>have:i=0:=by omega
        rw[this]
 |succ n ih=>
  rcases mS h1 with e|dA
  ·rw[e]
  ·rcases h with h|h
   ·rw[tH (by omega)];exact ih (.inl h) (by omega)
   ·omega
theorem IV {s k:Int} (h:0≤s∧s≤1000) (hk:0≤k∧k≤100):0≤s*k∧s*k≤100000:=
 ⟨Int.mul_nonneg h.1 hk.1,Int.le_trans (Int.mul_le_mul h.2 hk.2 hk.1 (by omega)) (by omega)⟩
theorem BD {M:aD} {l:List Dc} {v0:Value} {most:Nat} {a s:Int} (w0:World) (hM:Lt M w0) (hv:(RT.dc.sl).V M w0 l v0) (hm:most≤100) (ha:0≤a∧a≤1000000) (hs:0≤s∧s≤1000):
  Spec Tryz.prog 12 #[v0,.int .i64 (most:Int),.int .i64 a,.int .i64 s] w0 (fun v w=>(RT.en.sl).V M w (gD l a s most) v∧Step M w0 M w aw):=by
 have lu:=hM;refine aR (args:=[_,_,_,_]) (fn:=Tryz.f12) Tryz.func12 rfl (n:=37) Tryz.ntmps12 ?_;have S:Step M w0 M w0 aw:=(al _ _).bN (fun _ h=>h.elim) (fun _ h=>h.elim);refine ai (ad (ah rfl rfl (ab (ai (ad (ah rfl rfl (ab (ai (ai (ad (ah rfl rfl ?_)))))))))));refine ab (a7 ?_);refine dd (σ:=Nat×Value) (fun q=>[(0,v0),(1,.int .i64 (most:Int)),(2,.int .i64 a),(3,.int .i64 s),(9,q.2),(10,.int .i64 (q.1:Int))]) (fun q w=>∃M',Lt M' w∧Step M w0 M' w aw∧Own RT.en 71 M' w w0.heap.size q.2 (gD l a s q.1)∧(RT.dc.sl).V M' w l v0∧q.1≤most∧q.1≤l.length) (fun q=>most-q.1) (0,.slice none 0 0) (.cons rfl (.cons rfl (.cons rfl (.cons rfl (.cons rfl (.cons rfl .nil)))))) ?_ ?_
 ·exact⟨M,hM,S,eh _ _ _ _ _,hv,bG _,bG _⟩
 ·rintro⟨i,u⟩ w ⟨M1,hM,S,ho,hv,hi,mQ⟩;dsimp only at ho hi mQ ⊢;refine ai (ai (ad (ae rfl rfl (ae rfl rfl (bM Tryz.underlying22 rfl hv rfl (bY rfl rfl rfl (ae rfl rfl ?_)))))));refine aL (g:=15) rfl (fun gv=>?_) (fun gv=>?_)
  ·refine ak rfl rfl (ae rfl rfl (ak rfl rfl (ae rfl rfl (ak rfl rfl (bY rfl rfl rfl (aP rfl rfl rfl (ab ?_)))))));refine bK rfl (fun c3=>?_) (fun c3=>?_)
   ·refine aT (ai (a7 (ad (ae rfl rfl (ae rfl rfl (ae rfl rfl ?_))))));refine dq (M:=M1) Tryz.underlying22 lY rfl rfl rfl hv (aq _ _) (by omega) (fun u5 d DY FD=>?_);rw[aG]at DY;have hsi:=IV (k:=(i:Int)) hs (by omega);refine cM (M:=M1) (A:=RT.dc) aS rfl lY (by decide) rfl rfl rfl FD (aq _ _) (fun v5 oe=>?_);refine aJ rfl rfl E44 (D4 _ hM oe) (fun r5 w5 hc=>?_);obtain⟨tw,s5⟩:=hc;replace hv:=hv.le s5.le;replace ho:=ho.aW s5;replace hM:=s5.lt hM;have:=S.size;replace S:=S.ax s5;refine ae rfl rfl (ae rfl rfl (ae rfl rfl (Rg.La rfl rfl rfl (by omega) (bA rfl rfl rfl (by omega) ?_))));obtain⟨uf,rfl⟩:=FX tw;refine dO (places:=[(0,2),(2,1)]) dr CE ZU rfl ⟨_,_,rfl,rfl,_,_,rfl,rfl,rfl⟩ (out:=[_,_,_]) ⟨0,[_,_],rfl,rfl,by simp[Value.cells],2,[_],rfl,rfl,by simp[Value.cells],rfl⟩ ?_;refine fa (A:=RT.en) (hn:=by decide) (M:=M1) gw CE (by decide) rfl rfl hM (show RT.en.V _ _ (mu d,a+s*(i:Int)) _ from Km tw (by omega)) (.inl rfl) (fun aas aat BE zF=>?_);replace hv:=hv.le zF.le;replace tw:=tw.le zF.le;replace ho:=ho.aW zF;replace hM:=zF.lt hM;have:=S.size;replace S:=S.ax zF;refine cQ (M:=M1) (base:=w0.heap.size) gw CE rfl rfl rfl rfl ho BE (aq _ _) (by have:=jK l a s i;simp;omega) (by have:=jK l a s i;simp;omega) (S.size) (fun QU QV aau MZ zG=>?_);replace hv:=hv.le zG.le;replace tw:=tw.le zG.le;replace BE:=BE.le zG.le;replace hM:=zG.lt hM;have:=S.size;replace S:=S.dE zG ho (aZ _);replace ho:=MZ;refine ah rfl rfl (ab (ad (ae rfl rfl (bA rfl rfl rfl (by omega) (ah rfl rfl (ab ?_))))));refine⟨rfl,(i+1,QU),(.cons rfl (.cons rfl (.cons rfl (.cons rfl (.cons rfl (.cons rfl .nil)))))),?_,?_⟩
    ·exact⟨QV,hM,S,by rw[tG DY];exact ho,hv,by dsimp only;omega,by dsimp only;omega⟩
    ·dsimp only;omega
   ·refine cB (ai (ad (ae rfl rfl (ah rfl rfl (ab (aI ?_))))));rw[←zE (i:=i) (n:=most) (by omega) hi];exact aO rfl rfl ⟨ho.close lu S (by have:=jK l a s i;omega),S.back⟩
  ·refine ao rfl rfl rfl rfl (ao rfl rfl rfl rfl (ao rfl rfl rfl rfl (av rfl rfl rfl (ab (fL rfl (cB (ai (ad (ae rfl rfl (ah rfl rfl (ab ?_)))))))))));refine aI ?_;rw[←zE (i:=i) (n:=most) (by omega) hi];exact aO rfl rfl ⟨ho.close lu S (by have:=jK l a s i;omega),S.back⟩
end Go.K
namespace Go.K
open Go.Maps (Keyed)
structure eE (P:Program) (kt:TypeId) (w:World) (b:Nat) (es:List MapEntry) (clock:Nat):Prop where
 at_:w.heap[b]? =some (.map es.toArray clock)
 born:es.Pairwise fun x y=>x.born≠y.born
 lt:∀e∈es,e.born<clock
 keys:es.Pairwise fun x y=>x.key≠y.key
 ok:∀e∈es,∃l,keyOf P kt e.key=some l
def dG (zv:Value) (es:List MapEntry) (key v:Value):Prop:=(∃e∈es,e.key=key∧v=e.val)∨((∀e∈es,e.key≠key)∧v=zv)
section
variable {P:Program} {kt:TypeId} {w:World} {b clock:Nat} {es:List MapEntry}
theorem eE.step {M M' N:aD} {w':World} (h:eE P kt w b es clock) (s:Step M w M' w' N) (hn: ¬N b):eE P kt w' b es clock:=⟨s.bB h.at_ hn,h.born,h.lt,h.keys,h.ok⟩
theorem eE.aW {M M':aD} {w':World} (h:eE P kt w b es clock) (s:Step M w M' w' aw):eE P kt w' b es clock:=h.step s fun h=>h
theorem fP {α:Type} {R:α→α→Prop} {l:List α} (h:l.Pairwise R) {i j:Nat} {x y:α} (hi:l[i]? =some x) (hj:l[j]? =some y) (gy:i<j):R x y:=by
 obtain⟨h1,h2⟩:=au.1 hi;obtain⟨h3,h4⟩:=au.1 hj;have:=List.pairwise_iff_getElem.1 h i j h1 h3 gy
 rwa [h2,h4]at this
theorem eE.CS (h:eE P kt w b es clock) {x y:MapEntry} (hx:x∈es) (hy:y∈es) (e:x.key=y.key):x=y:=by
 obtain⟨i,hi⟩:=bR.1 hx;obtain⟨j,hj⟩:=bR.1 hy;rcases kh i j with h1|h1|h1
 ·exact absurd e (fP h.keys hi hj h1)
 ·subst h1;rw[hi]at hj;exact bU hj
 ·exact absurd e.symm (fP h.keys hj hi h1)
theorem eE.zH (h:eE P kt w b es clock) {i j:Nat} {x y:MapEntry} (hi:es[i]? =some x) (hj:es[j]? =some y) (e:x.born=y.born):i=j:=by
 rcases kh i j with h1|h1|h1
 ·exact absurd e (fP h.born hi hj h1)
 ·exact h1
 ·exact absurd e.symm (fP h.born hj hi h1)
theorem eE.val_one (h:eE P kt w b es clock) {zv key v v':Value} (h1:dG zv es key v) (h2:dG zv es key v'):v=v':=by
 rcases h1 with⟨e,he,hk,hv⟩|⟨hn,hv⟩
 ·rcases h2 with⟨e',nB,sm,nZ⟩|⟨OV,_⟩
  ·have:=h.CS he nB (hk.trans sm.symm);rw[hv,nZ,this]
  ·exact absurd hk (OV e he)
 ·rcases h2 with⟨e',nB,sm,_⟩|⟨_,nZ⟩
  ·exact absurd sm (hn e' nB)
  ·rw[hv,nZ]
theorem cV {r:Nat} {a:Array MapEntry} {c:Nat} (hb:w.heap[r]? =some (.map a c)):(getObj r).run P w= .ok (.map a c) w:=by simp[getObj,Sem.run,hb]
theorem run_setObj_map {r:Nat} {a:Array MapEntry} {c:Nat} {o:Obj} (hb:w.heap[r]? =some (.map a c)):(setObj r o).run P w= .ok () {w with heap:=w.heap.setIfInBounds r o}:=by simp[setObj,Sem.run,hb]
theorem eE.push (h:eE P kt w b es clock) {key v:Value} {kl:Lit} (hY:keyOf P kt key=some kl) (hn:∀e∈es,e.key≠key) {w':World} (hw:w'.heap[b]? =some (.map (es++([⟨key,v,clock⟩]:List MapEntry)).toArray (clock+1))):eE P kt w' b (es++[⟨key,v,clock⟩]) (clock+1):=
 ⟨hw,List.pairwise_append.2 ⟨h.born,List.pairwise_singleton _ _,fun x hx y hy=>by rw[cC.1 hy];have:=h.lt x hx;show x.born≠clock;omega⟩,(fun e he=>by
  rcases dC.1 he with he|he
  ·have:=h.lt e he;omega
  ·rw[cC.1 he];exact Nat.lt_succ_self _),List.pairwise_append.2 ⟨h.keys,List.pairwise_singleton _ _,fun x hx y hy=>by rw[cC.1 hy];exact hn x hx⟩,(fun e he=>by
  rcases dC.1 he with he|he
  ·exact h.ok e he
  ·rw[cC.1 he];exact⟨kl,hY⟩)⟩
theorem dG.push {zv key:Value} {s:Nat} (hn:∀e∈es,e.key≠key) (gE v':Value):dG zv (es++[⟨key,zv,s⟩]) gE v'↔dG zv es gE v':=by
 constructor
 ·rintro(⟨e,he,hk,hv⟩|⟨h1,h2⟩)
  ·rcases dC.1 he with he|he
   ·exact .inl ⟨e,he,hk,hv⟩
   ·rw[cC.1 he]at hk hv;exact .inr ⟨fun e he=>by rw[←hk];exact hn e he,hv⟩
  ·exact .inr ⟨fun e he=>h1 e (kJ _ he),h2⟩
 ·rintro(⟨e,he,hk,hv⟩|⟨h1,h2⟩)
  ·exact .inl ⟨e,kJ _ he,hk,hv⟩
  ·by_cases hk:key=gE
   ·exact .inl ⟨⟨key,zv,s⟩,by simp,hk,h2⟩
   ·exact .inr ⟨fun e he=>by
     rcases dC.1 he with he|he
     ·exact h1 e he
     ·rw[cC.1 he];exact hk,h2⟩
end
section
variable {P:Program} {r:Option Nat} {n:Nat} {L:Sl} {ds:List Deferred} {w:World} {K:Kt} {ops:Array Oper} {rest:List Oper} {d:Nat} {x y z:Operand} {ty:TypeId} {pos:String} {af:Array Edge}
variable {kt:TypeId} {M:aD} {b clock:Nat} {es:List MapEntry}
theorem Rg.zI {t e:TypeId} (M:aD) (ht:P.underlying t=some (.map kt e)) (hd:Nat.blt d n=true)
  (k:∀b w',w.heap.size≤b→b<w'.heap.size→eE P kt w' b [] 0→Step M w (ins M b) w' aw→Rg P r n ops rest ((d,.map (some b))::L) ds w' K):
  Rg P r n ops ({dst:=some d,op:= .makeMap t none,type:=ty,pos,after:=af,guard:=none}::rest) L ds w K:=by
 refine .op (fun _ h=>by cases h) rfl rfl hd (.map (some w.heap.size)) (w.alloc (.map #[] 0)) (fun ρ hρ=>?_) (k w.heap.size _ (aZ _) (by simp) ⟨cu w _,List.Pairwise.nil,(fun e he=>by cases he),List.Pairwise.nil,(fun e he=>by cases he)⟩ ((cL M w _).own (aZ _) (by simp)));simp only[execOp];simp[Instr.makeMap,newObj,Sem.run,run_underlying ht]
theorem Rg.mapEntry {t e:TypeId} {zv key:Value} {size bytes:Nat} {kl:Lit} (ht:P.underlying t=some (.map kt e)) (Kk:Keyed P kt) (hi:TI P e zv size bytes) (hx:ev L x=some (.map (some b))) (hy:ev L y=some key) (hd:Nat.blt d n=true) (hY:keyOf P kt key=some kl) (h:eE P kt w b es clock) (hm:M b)
  (k:∀w' mv BF v s,eE P kt w' b mv BF→dG zv es key v→(⟨key,v,s⟩:MapEntry)∈mv→(∀gE v',dG zv mv gE v'↔dG zv es gE v')→((mv.map (·.key)=es.map (·.key)∧∃e∈es,e.key=key)∨(mv.map (·.key)=es.map (·.key)++[key]∧∀e∈es,e.key≠key))→Step M w M w' (fun k=>k=b)→Rg P r n ops rest ((d,.tuple #[v,.int .i64 (s:Nat)])::L) ds w' K):
  Rg P r n ops ({dst:=some d,op:= .mapEntry t x y,type:=ty,pos,after:=af,guard:=none}::rest) L ds w K:=by
 have dA:=aj h.at_;rcases Kk.find w hY es h.ok with⟨h1,h2⟩|⟨j,e0,h1,h2,h3⟩
 ·obtain⟨inf,i1,i2,_,_⟩:=hi.get;have hz:(zeroValue e).run P w= .ok zv w:=by simp[zeroValue,typeInfo,i1,i2]
  have hw:({w with heap:=w.heap.setIfInBounds b (.map (es.toArray.push ⟨key,zv,clock⟩) (clock+1))}:World).heap[b]? =some (.map (es++([⟨key,zv,clock⟩]:List MapEntry)).toArray (clock+1)):=by
   simp[cH,dA]
  refine .op (fun _ h=>by cases h) rfl rfl hd _ _ (fun ρ hρ=>?_) (k _ _ _ zv clock (h.push hY h2 hw) (Or.inr ⟨h2,rfl⟩) (by simp) (dG.push h2) (Or.inr ⟨by simp,h2⟩) (gB M hm));simp only[execOp,hρ x _ hx,hρ y _ hy,Instr.mapEntry,cz,run_underlying ht,cY,cV h.at_,Kk.check w false hY,h1,hz,run_setObj_map h.at_];simp[goInt]
 ·have he:e0∈es:=aN h2
  have Gl:es.toArray.modify j (fun e=>{e with key:=key})=es.toArray:=by
   apply Array.ext_getElem?;intro i;rw[pX]
   split
   ·rename_i QW
    subst QW;simp only[gM,h2,ek];rw[←h3]
   ·rfl
  have hw:({w with heap:=w.heap.setIfInBounds b (.map es.toArray clock)}:World).heap[b]? =some (.map es.toArray clock):=by simp[cH,dA]
  have hj:es.toArray[j]? =some e0:=by simpa using h2
  have iI:(Instr.keyThatStays ((Option.map (fun(e:MapEntry)=>e.key) es.toArray[j]?).getD key) key).run P w= .ok key w:=by
   rw[hj];simp only[ek,Option.getD_some,h3];exact Kk.stays w hY
  refine .op (fun _ h=>by cases h) rfl rfl hd _ _ (fun ρ hρ=>?_) (k _ es clock e0.val e0.born ⟨hw,h.born,h.lt,h.keys,h.ok⟩ (Or.inl ⟨e0,he,h3,rfl⟩) (by rw[←h3];exact he) (fun _ _=>Iff.rfl) (Or.inl ⟨rfl,e0,he,h3⟩) (gB M hm));simp only[execOp,hρ x _ hx,hρ y _ hy,Instr.mapEntry,cz,run_underlying ht,cY,cV h.at_,Kk.check w false hY,h1,iI,Gl,run_setObj_map h.at_];simp[goInt,hj]
theorem Rg.entryStore {t:TypeId} {key v0 val:Value} {s:Nat} (hx:ev L x=some (.map (some b))) (hy:ev L y=some (.int .i64 (s:Int))) (hz:ev L z=some val) (h:eE P kt w b es clock) (hm:M b) (l2:(⟨key,v0,s⟩:MapEntry)∈es)
  (k:∀w' mv,eE P kt w' b mv clock→mv.map (·.key)=es.map (·.key)→(∀zv gE v',dG zv mv gE v'↔(gE=key∧v'=val)∨(gE≠key∧dG zv es gE v'))→Step M w M w' (fun k=>k=b)→Rg P r n ops rest L ds w' K):
  Rg P r n ops ({dst:=none,op:= .entryStore t x y z,type:=ty,pos,after:=af,guard:=none}::rest) L ds w K:=by
 have dA:=aj h.at_;obtain⟨i,hi⟩:=bR.1 l2;have mQ:=(au.1 hi).1
 have WG:es.toArray.findIdx? (fun e=>(e.born:Int)==(s:Int))=some i:=by
  rw[List.findIdx?_toArray,List.findIdx?_eq_some_iff_getElem];refine⟨mQ,by rw[(au.1 hi).2];simp,fun j hj=>?_⟩;have pY:j<es.length:=by omega
  have:=fun e=>h.zH (aK pY) hi e
  simp only[Bool.not_eq_true,beq_eq_false_iff_ne,ne_eq];intro e;have e2:((es[j]).born:Int)=(s:Int):=by simpa using e
  have:=this (by show(es[j]).born=s;omega);omega
 obtain⟨mv,qD⟩:∃mv,mv=es.set i ⟨key,val,s⟩:=⟨_,rfl⟩
 have Gl:es.toArray.modify i (fun e=>{e with val:=val})=mv.toArray:=by
  apply Array.ext_getElem?;intro j;rw[pX,qD];simp only[gM,dJ]
  split
  ·rename_i QW
   subst QW;rw[hi];simp
  ·rfl
 have ga:∀j e',mv[j]? =some e'→(j=i∧e'=⟨key,val,s⟩)∨(j≠i∧es[j]? =some e'):=fun j e' hj=>by
  rw[qD,dJ]at hj
  split at hj
  ·rename_i gy
   left;exact⟨gy.symm,by simpa[mQ]using hj.symm⟩
  ·rename_i gy
   exact .inr ⟨fun e=>gy e.symm,hj⟩
 have my:mv.map (·.key)=es.map (·.key):=by
  rw[qD,List.map_set];apply ki;intro j;rw[dJ]
  split
  ·rename_i gy
   subst gy;have e:=(au.1 hi).2;simp[mQ,e]
  ·rfl
 have Gm:mv.map (·.born)=es.map (·.born):=by
  rw[qD,List.map_set];apply ki;intro j;rw[dJ]
  split
  ·rename_i gy
   subst gy;have e:=(au.1 hi).2;simp[mQ,e]
  ·rfl
 have hw:({w with heap:=w.heap.setIfInBounds b (.map mv.toArray clock)}:World).heap[b]? =some (.map mv.toArray clock):=by simp[cH,dA]
 have eo:∀e'∈mv,(e'=⟨key,val,s⟩)∨(e'∈es∧e'.key≠key):=fun e' nB=>by
  obtain⟨j,hj⟩:=bR.1 nB;rcases ga j e' hj with⟨_,e⟩|⟨eD,qj⟩
  ·exact .inl e
  ·refine .inr ⟨aN qj,fun e=>eD ?_⟩;rcases kh j i with h1|h1|h1
   ·exact absurd e (fP h.keys qj hi h1)
   ·exact h1
   ·exact absurd e.symm (fP h.keys hi qj h1)
 have Gn:(⟨key,val,s⟩:MapEntry)∈mv:=aN (i:=i) (by rw[qD,dJ];simp[mQ])
 have hold:∀e'∈es,e'.key≠key→e'∈mv:=fun e' nB eD=>by
  obtain⟨j,hj⟩:=bR.1 nB;refine aN (i:=j) ?_;rw[qD,dJ,if_neg]
  ·exact hj
  ·rintro rfl;rw[hi]at hj;cases hj;exact eD rfl
 have hW:eE P kt {w with heap:=w.heap.setIfInBounds b (.map mv.toArray clock)} b mv clock:=by
  refine⟨hw,?_,fun e' nB=>?_,?_,fun e' nB=>?_⟩
  ·have:=dg.2 h.born;rw[←Gm]at this;exact dg.1 this
  ·rcases eo e' nB with e|⟨h1,_⟩
   ·rw[e];exact(h.lt _ l2:s<clock)
   ·exact h.lt _ h1
  ·have:=dg.2 h.keys;rw[←my]at this;exact dg.1 this
  ·rcases eo e' nB with e|⟨h1,_⟩
   ·rw[e];exact(h.ok _ l2:∃l,keyOf P kt key=some l)
   ·exact h.ok _ h1
 refine .OB (fun _ h=>by cases h) rfl rfl _ (fun ρ hρ=>?_) (k _ mv hW my (fun zv gE v'=>?_) (gB M hm))
 ·simp only[execOp,hρ x _ hx,hρ y _ hy,hρ z _ hz,Instr.entryStore,cz,cV h.at_,cY,asInt,asIntOf,Sem.run_pure,WG,Gl,run_setObj_map h.at_]
 ·constructor
  ·rintro(⟨e',nB,hk,hv⟩|⟨h1,h2⟩)
   ·rcases eo e' nB with e|⟨h3,h4⟩
    ·subst e;exact .inl ⟨hk.symm,hv⟩
    ·exact .inr ⟨by rw[←hk];exact h4,.inl ⟨e',h3,hk,hv⟩⟩
   ·have eD:gE≠key:=fun e=>h1 _ Gn e.symm
    exact .inr ⟨eD,.inr ⟨fun e' nB=>fun e=>by
     by_cases h5:e'.key=key
     ·exact eD (e.symm.trans h5)
     ·exact h1 e' (hold e' nB h5) e,h2⟩⟩
  ·rintro(⟨rfl,rfl⟩|⟨eD,⟨e',nB,hk,hv⟩|⟨h1,h2⟩⟩)
   ·exact .inl ⟨_,Gn,rfl,rfl⟩
   ·exact .inl ⟨e',hold e' nB (by rw[hk];exact eD),hk,hv⟩
   ·exact .inr ⟨fun e' nB=>by
     rcases eo e' nB with e|⟨h3,_⟩
     ·rw[e];exact fun e=>eD e.symm
     ·exact h1 e' h3,h2⟩
theorem Rg.pJ {t e:TypeId} {zv key:Value} {size bytes:Nat} {kl:Lit} (ht:P.underlying t=some (.map kt e)) (Kk:Keyed P kt) (hi:TI P e zv size bytes) (hx:ev L x=some (.map (some b))) (hy:ev L y=some key) (hd:Nat.blt d n=true) (hY:keyOf P kt key=some kl) (h:eE P kt w b es clock)
  (k:∀v,dG zv es key v→Rg P r n ops rest ((d,v)::L) ds w K):
  Rg P r n ops ({dst:=some d,op:= .lookup t x y false,type:=ty,pos,after:=af,guard:=none}::rest) L ds w K:=by
 rcases Kk.find w hY es h.ok with⟨h1,h2⟩|⟨j,e0,h1,h2,h3⟩
 ·obtain⟨inf,i1,i2,_,_⟩:=hi.get;have hz:(zeroValue e).run P w= .ok zv w:=by simp[zeroValue,typeInfo,i1,i2]
  refine .op (fun _ h=>by cases h) rfl rfl hd zv w (fun ρ hρ=>?_) (k zv (Or.inr ⟨h2,rfl⟩));simp only[execOp,hρ x _ hx,hρ y _ hy,Instr.lookup,cz,run_underlying ht,cY,cV h.at_,Sem.run_pure,Kk.check w _ hY,h1,hz];simp
 ·refine .op (fun _ h=>by cases h) rfl rfl hd e0.val w (fun ρ hρ=>?_) (k e0.val (Or.inl ⟨e0,aN h2,h3,rfl⟩));simp only[execOp,hρ x _ hx,hρ y _ hy,Instr.lookup,cz,run_underlying ht,cY,cV h.at_,Sem.run_pure,Kk.check w _ hY,h1];simp
end
end Go.K
namespace Go.K
open Go.Proofs
set_option maxRecDepth 10000
open Go.Maps (Keyed)
def kv (t:Fd):Value:= .agg #[.string ⟨t.1.toArray⟩,.string ⟨t.2.toArray⟩]
theorem qE {a b:Fd} (h:kv a=kv b):a=b:=by
 unfold kv at h;simp only[Value.agg.injEq,Array.mk.injEq,List.cons.injEq,Value.string.injEq,ByteArray.mk.injEq,and_true]at h;exact Prod.ext h.1 h.2
theorem Gp:laidOutB Tryz.prog=true:=by kernel_rfl
theorem Gq:Tryz.prog.types.size=383:=by kernel_rfl
theorem wC:Keyed Tryz.prog 78:=Keyed.of_law (deep_law_laid Gp (m:=2) (k:=78) (by omega) (by rw[Gq];decide) (by kernel_rfl) (by kernel_rfl))
theorem QX:Tryz.prog.keyType 78=true:=by kernel_rfl
theorem CT:Tryz.prog.cellsOf 78=2:=by kernel_rfl
theorem IW:Tryz.prog.cellsOf 9=1:=by kernel_rfl
theorem Gr (t:Fd) (h1:t.1.length≤140737488355328) (h2:t.2.length≤140737488355328):∃l,keyOf Tryz.prog 78 (kv t)=some l:=by
 have e1:(⟨t.1.toArray⟩:ByteArray).size=t.1.length:=by simp[ByteArray.size]
 have e2:(⟨t.2.toArray⟩:ByteArray).size=t.2.length:=by simp[ByteArray.size]
 have hs:∀(s:ByteArray),s.size≤maxLen→Tryz.prog.keyLits 383 9 [.string s]=some [.string s.data.toList]:=fun s hs=>by
  show(match Tryz.prog.underlying 9,[Value.string s]with|_,_=>_)=_;rw[aF];exact if_pos hs
 unfold keyOf kv;rw[cg];simp only[QX,Value.formed,cg,CT,Gq]
 have key:∃ls,Tryz.prog.keyLits (383+1) 78 [.string ⟨t.1.toArray⟩,.string ⟨t.2.toArray⟩]=some ls:=by
  unfold Program.keyLits;simp only[cg];rw[if_pos ⟨by rw[CT];rfl,by kernel_rfl⟩];simp only[List.mapM_cons,List.mapM_nil,IW];have g1:=hs ⟨t.1.toArray⟩ (by rw[e1];unfold maxLen;omega);have g2:=hs ⟨t.2.toArray⟩ (by rw[e2];unfold maxLen;omega);refine⟨[.string (⟨t.1.toArray⟩:ByteArray).data.toList,.string (⟨t.2.toArray⟩:ByteArray).data.toList],?_⟩;simp only[List.drop_zero,List.drop_succ_cons,List.take_succ_cons,List.take_zero,g1,g2];rfl
 obtain⟨ls,EG⟩:=key;exact⟨.string (keyBytes ls),by rw[if_pos (by simp)];show Option.map _ (Tryz.prog.keyLits (383+1) 78 [.string ⟨t.1.toArray⟩,.string ⟨t.2.toArray⟩])=_;rw[EG];rfl⟩
end Go.K
namespace Go.K
open Go.Proofs
set_option maxRecDepth 10000
def gF (x:Fd):List (Fd×Nat):=(words x.2).zipIdx.map fun p=>((x.1,p.1),p.2)
def ca (l:List Fd):List (Fd×Nat):=l.flatMap gF
theorem lB (x:Fd):(gF x).length=(words x.2).length:=by simp[gF]
theorem Gs {x:Fd} {k:Nat} {y:List UInt8} (h:(words x.2)[k]? =some y):(gF x)[k]? =some ((x.1,y),k):=by
 simp[gF,List.getElem?_zipIdx,h]
theorem oY {fs:List Fd} {i:Nat} {x:Fd} (h:fs[i]? =some x):ca (fs.take (i+1))=ca (fs.take i)++gF x:=by
 rw[cw,h];simp[ca]
structure M5 (P:Program) (g:FuncId) (cap:List Value) (B:Nat) (J:List (Fd×Nat)→aD→World→Prop):Prop where
 enters:Enters P g
 step:∀ts M w M' w',J ts M w→Step M w M' w' aw→J ts M' w'
 tell:∀ts M w (t:Fd) (i:Nat),J ts M w→Lt M w→t.1.length≤900000→t.2.length≤140737488355328→i≤1000000→ts.length≤10000000→Spec P g ([kv t,.int .i64 (i:Int)]++cap).toArray w (fun _ w'=>∃M',Lt M' w'∧J (ts++[(t,i)]) M' w'∧Step M w M' w' (jE M B))
theorem wF {M:aD} {d:Dc} {v0:Value} {g:FuncId} {cap:List Value} {B:Nat} {J:List (Fd×Nat)→aD→World→Prop} (w0:World) (hM:Lt M w0) (hv:RT.dc.V M w0 d v0) (hl:∀f∈d.2,f.1.length≤900000∧f.2.length≤900000) (TH:d.2.length≤8) (hT:M5 Tryz.prog g cap B J) (hJ:J [] M w0):
  Spec Tryz.prog 132 #[v0,.func (.func g) #[] cap.toArray] w0 (fun v w=>∃M',Lt M' w∧J (ca d.2) M' w∧Step M w0 M' w (jE M B)):=by
 refine aR (args:=[_,_]) (fn:=Tryz.f132) Tryz.func132 rfl (n:=33) Tryz.ntmps132 ?_;have S:Step M w0 M w0 (jE M B):=(al _ _).bN (fun _ h=>h.elim) (fun _ h=>h.2);refine ai (ad ?_);refine Rg.ly (A:=RT.dc) rfl rfl hM hv rfl (fun u0 w1 cA s0 _=>?_);replace hJ:=hT.step _ _ _ _ _ hJ s0;replace hM:=s0.lt hM;have:=S.size;replace S:=S.ax s0;refine ab (ai (ad ?_));refine aM (M:=M) (A:=RT.dc) (B:=(RT.fd).sl) aS rfl rfl qt (by decide) (D0) rfl rfl (by decide) (by assumption) (by repeat (first|exact aq _ _|refine aU (bm (by assumption)) ?_)) (fun uP jC=>?_);refine bZ (M:=M) aX rfl rfl rfl rfl rfl (by assumption) (by repeat (first|exact aq _ _|refine aU (bm (by assumption)) ?_)) (fun uQ kD=>?_);refine bM aX rfl kD rfl (ae rfl rfl (ab (a7 ?_)));refine dd (σ:=Nat) (fun i=>[(1,.func (.func g) #[] cap.toArray),(9,uQ),(10,.int .i64 (d.2.length:Int)),(11,.int .i64 (i:Int))]) (fun i w=>∃M',Lt M' w∧Step M w0 M' w (jE M B)∧(RT.fd.sl).V M' w d.2 uQ∧J (ca (d.2.take i)) M' w∧i≤d.2.length∧(ca (d.2.take i)).length≤900001*i) (fun i=>d.2.length-i) 0 (.cons rfl (.cons rfl (.cons rfl (.cons rfl .nil)))) ?_ ?_
 ·exact⟨_,hM,S,kD,hJ,bG _,aZ _⟩
 ·rintro i w ⟨M1,hM,S,mT,hJ,hi,JX⟩;refine ai (ad (bY rfl rfl rfl (ab (ai ?_))));refine bK rfl (fun c2=>?_) (fun c2=>?_)
  ·refine aT (ai (a7 (ai (ad ?_))));refine dq (M:=M1) aX iL rfl rfl rfl mT (aq _ _) (by omega) (fun u3 x Na hu3=>?_);rw[aG]at Na;have yI:=hl _ (aN Na);refine cM (M:=M1) (A:=RT.fd) bV rfl iL (by decide) rfl rfl rfl hu3 (aq _ _) (fun v3 uT=>?_);refine rI (A:=RT.fd) (M:=M1) iL rfl rfl rfl rfl rfl (by assumption) (aq _ _) hM (fun IX ad0 tI IY ad1=>?_);replace mT:=mT.le IY.le;replace hJ:=hT.step _ _ _ _ _ hJ IY;replace hM:=IY.lt hM;have:=S.size;replace S:=S.ax IY;refine ab (ai (ad ?_));refine aM (M:=M1) (A:=RT.fd) (B:=RT.str) bV rfl rfl I9 (by decide) (TD) rfl rfl (by decide) (by assumption) (by repeat (first|exact aq _ _|refine aU (bm (by assumption)) ?_)) (fun MD CQ=>?_);refine bZ (M:=M1) aF rfl rfl rfl rfl rfl CQ (aq _ _) (fun v4 pz=>?_);obtain rfl:=fH pz;refine aJ rfl rfl PJ (tp (l:=x.2) _ hM yI.2) (fun v5 w5 hc=>?_);obtain⟨QY,s5⟩:=hc;replace mT:=mT.le s5.le;replace tI:=tI.le (by decide) s5.le;replace hJ:=hT.step _ _ _ _ _ hJ s5;replace hM:=s5.lt hM;have:=S.size;replace S:=S.ax s5;have hwl:=nP x.2;refine bM aV rfl QY rfl (ae rfl rfl (ab (a7 ?_)));refine dd (σ:=Nat) (fun k=>[(1,.func (.func g) #[] cap.toArray),(5,IX),(9,uQ),(10,.int .i64 (d.2.length:Int)),(11,.int .i64 (i:Int)),(17,v5),(18,.int .i64 ((words x.2).length:Int)),(19,.int .i64 (k:Int))]) (fun k w=>∃M',Lt M' w∧Step M w0 M' w (jE M B)∧(RT.fd.sl).V M' w d.2 uQ∧cf RT.fd M' w IX x∧(RT.str.sl).V M' w (words x.2) v5∧J (ca (d.2.take i)++(gF x).take k) M' w∧k≤(words x.2).length) (fun k=>(words x.2).length-k) 0 (.cons rfl (.cons rfl (.cons rfl (.cons rfl (.cons rfl (.cons rfl (.cons rfl (.cons rfl .nil)))))))) ?_ ?_
   ·exact⟨_,hM,S,mT,tI,QY,by rw[List.take_zero,List.append_nil];exact hJ,bG _⟩
   ·rintro k w ⟨M2,hM,S,mT,tI,QY,hJ,hk⟩;refine ai (ad (bY rfl rfl rfl (ab (ai ?_))));refine bK rfl (fun c5=>?_) (fun c5=>?_)
    ·refine aT (ai (a7 (ai (ad (ae rfl rfl ?_)))));refine dq (M:=M2) aV I9 rfl rfl rfl QY (aq _ _) (by omega) (fun u6 y AS FQ=>?_);rw[aG]at AS;refine bZ (M:=M2) aF rfl rfl rfl rfl rfl FQ (aq _ _) (fun v6 nw=>?_);have OJ:=(jP.1 nw).2;obtain rfl:=fH nw;refine ah rfl rfl (ah rfl rfl (ab (ad (ae rfl rfl ?_))));refine aM (M:=M2) (A:=RT.fd) (B:=RT.str) bV rfl rfl I9 (by decide) (MB) rfl rfl (by decide) (by assumption) (by repeat (first|exact aq _ _|refine aU (bm (by assumption)) ?_)) (fun ad2 QZ=>?_);refine bZ (M:=M2) aF rfl rfl rfl rfl rfl QZ (aq _ _) (fun v7 zJ=>?_);obtain rfl:=fH zJ;refine ae rfl rfl (dO (places:=[(0,1),(1,1)]) cg sT B78 rfl ⟨_,_,rfl,rfl,_,_,rfl,rfl,rfl⟩ (out:=[_,_]) ⟨0,[_],rfl,rfl,by simp[Value.cells],1,[_],rfl,rfl,by simp[Value.cells],rfl⟩ (ae rfl rfl ?_));refine Rg.nY (first:=[]) (captured:=cap) (xs:=[.tmp 28,.tmp 29]) rfl rfl rfl hT.enters (hT.tell _ _ _ (x.1,y) k hJ hM yI.1 OJ (by omega) (by rw[bP,bS,lB];omega)) (fun r7 w7 hc=>?_);obtain⟨M7,hM7,hJ7,s7⟩:=hc;refine ab (ad (bA rfl rfl rfl (by omega) (ae rfl rfl (ab ?_))));refine⟨rfl,k+1,(.cons rfl (.cons rfl (.cons rfl (.cons rfl (.cons rfl (.cons rfl (.cons rfl (.cons rfl .nil)))))))),?_,?_⟩
     ·exact⟨M7,hM7,S.trans s7 (fun b hb h=>⟨h.1,(S.mem b hb).1 h.2⟩),mT.le s7.le,tI.le (by decide) s7.le,QY.le s7.le,by rw[cw,Gs AS,dp,←List.append_assoc];exact hJ7,by omega⟩
     ·omega
    ·refine cB (ad (bA rfl rfl rfl (by omega) (ae rfl rfl (ab ?_))));refine⟨rfl,i+1,(.cons rfl (.cons rfl (.cons rfl (.cons rfl .nil)))),?_,?_⟩
     ·exact⟨_,hM,S,mT,by rw[oY Na];have e:(gF x).take k=gF x:=bT (by rw[lB];omega);rw[e]at hJ;exact hJ,by omega,by rw[oY Na,bP,lB];omega⟩
     ·omega
  ·refine cB ?_
   first|refine fF.nil ?_|simp+decide only[rz,jO,if_true,if_false]|skip
   have e:d.2.take i=d.2:=bT (by omega);rw[e]at hJ;exact jx rfl ⟨_,hM,hJ,S⟩
theorem zK {M:aD} {w:World} {t:Fd} (h1:t.1.length≤140737488355328) (h2:t.2.length≤140737488355328):RT.fd.V M w t (kv t):=eA (jP.2 ⟨rfl,h1⟩) (jP.2 ⟨rfl,h2⟩) rfl rfl rfl rfl
def WJ (b B:Nat) (ts:List (Fd×Nat)) (M:aD) (w:World):Prop:=w.heap[b]? =some (.cells #[.int .i64 (ts.length:Int)] 3 (0,0))∧M b∧B≤b
theorem xY {M:aD} {b B:Nat} {ts:List (Fd×Nat)} {t:Fd} {i:Nat} (w0:World) (hM:Lt M w0) (h1:t.1.length≤900000) (h2:t.2.length≤140737488355328) (E3:ts.length≤10000000) (hJ:WJ b B ts M w0):
  Spec Tryz.prog 139 #[kv t,.int .i64 (i:Int),.pointer (some ⟨b,0,none⟩)] w0 (fun v w=>∃M',Lt M' w∧WJ b B (ts++[(t,i)]) M' w∧Step M w0 M' w (jE M B)):=by
 obtain⟨gb,dB,hB⟩:=hJ;refine aR (args:=[_,_,_]) (fn:=Tryz.f139) Tryz.func139 rfl (n:=7) Tryz.ntmps139 ?_;have S:Step M w0 M w0 (jE M B):=(al _ _).bN (fun _ h=>h.elim) (fun _ h=>h.2);refine ai (ad ?_);refine Rg.ly (A:=RT.fd) rfl rfl hM (zK (by omega) h2) rfl (fun u0 w1 cA s0 _=>?_);have:=aj gb;replace dB:=(s0.mem _ this).2 dB;replace gb:=s0.aE gb;replace hM:=s0.lt hM;have:=S.size;replace S:=S.ax s0;refine ab (ad (az an rfl rfl rfl (by assumption) rfl (bA rfl rfl rfl (by omega) ?_)));refine bL (M:=M) I3 rfl rfl gb rfl (rfl) dB (fun y6 fu iM=>?_);change y6.heap[_]? =some (Obj.cells #[.int .i64 ((ts.length:Int)+1)] _ _)at fu;have:=aj gb;replace dB:=(iM.mem _ this).2 dB;replace hM:=iM.lt hM;have:=S.size;replace S:=S.trans iM (fun k hk h=>by have h:_=_:=h;subst h;first|(exfalso;omega)|(show _≤_;omega)|exact⟨by first|omega|assumption,(S.mem _ hk).1 ((iM.mem _ (aj gb)).1 dB)⟩|exact .inl rfl|exact .inr rfl|exact .inr (.inl rfl)|exact .inr (.inr rfl)|exact .inr (.inr (.inl rfl))|exact rfl);have Gt:=fu;clear gb;have gb:=Gt;clear Gt;refine ab ?_
 first|refine fF.nil ?_|simp+decide only[rz,jO,if_true,if_false]|skip
 exact jx rfl ⟨_,hM,⟨by rw[bP];exact gb,dB,hB⟩,S⟩
theorem zL {b B:Nat}:M5 Tryz.prog 139 [.pointer (some ⟨b,0,none⟩)] B (WJ b B):=
 ⟨UW,fun ts M w M' w' ⟨h1,h2,h3⟩ s=>⟨s.aE h1,(s.mem _ (aj h1)).2 h2,h3⟩,fun ts M w t i hJ hM h1 h2 _ h4=>xY w hM h1 h2 h4 hJ⟩
theorem zM {M:aD} {d:Dc} {v0:Value} (w0:World) (hM:Lt M w0) (hv:RT.dc.V M w0 d v0) (hl:∀f∈d.2,f.1.length≤900000∧f.2.length≤900000) (TH:d.2.length≤8):
  Spec Tryz.prog 89 #[v0] w0 (fun v w=>v= .int .i64 ((ca d.2).length:Int)∧Step M w0 M w aw):=by
 refine aR (args:=[_]) (fn:=Tryz.f89) Tryz.func89 rfl (n:=8) Tryz.ntmps89 ?_;have S:Step M w0 M w0 aw:=(al _ _).bN (fun _ h=>h.elim) (fun _ h=>h.elim);refine ai (ad ?_);refine Rg.ly (A:=RT.dc) rfl rfl hM hv rfl (fun u0 w1 cA s0 _=>?_);replace hM:=s0.lt hM;have:=S.size;replace S:=S.ax s0;refine ah rfl rfl (ab (ai (ad ?_)));refine ew M I3 rfl (fun qA IN V9 Wa l4 rD=>?_);obtain⟨tq,tt⟩:∃M',M'=ins M qA:=⟨_,rfl⟩;rw[←tt]at rD;have j7:tq qA:=by rw[tt];exact .inl rfl
 change IN.heap[qA]? =some (.cells #[.int .i64 0] _ _)at l4;replace cA:=cA.le (by decide) rD.le;replace hM:=rD.lt hM;have:=S.size;replace S:=S.ax rD;refine bL (M:=tq) I3 rfl rfl l4 rfl (rfl) j7 (fun Nb uU rE=>?_);change Nb.heap[_]? =some (Obj.cells #[.int .i64 0] _ _)at uU;have:=aj l4;replace j7:=(rE.mem _ this).2 j7;replace cA:=cA.le (by decide) rE.le;replace hM:=rE.lt hM;have:=S.size;replace S:=S.trans rE (fun k hk h=>by have h:_=_:=h;subst h;first|(exfalso;omega)|(show _≤_;omega)|exact⟨by first|omega|assumption,(S.mem _ hk).1 ((rE.mem _ (aj l4)).1 j7)⟩|exact .inl rfl|exact .inr rfl|exact .inr (.inl rfl)|exact .inr (.inr rfl)|exact .inr (.inr (.inl rfl))|exact rfl);have KB:=uU;clear l4;have l4:=KB;clear KB;refine ab (ai (ad ?_));refine cM (M:=tq) (A:=RT.dc) aS rfl lY (by decide) rfl rfl rfl cA (aq _ _) (fun v2 yB=>?_);refine gG (xs:=[]) (ys:=[.tmp 3]) rfl rfl rfl ?_;refine aJ rfl rfl PI (wF (cap:=[.pointer (some ⟨qA,0,none⟩)]) (B:=w0.heap.size) _ hM yB hl TH zL ⟨l4,j7,by omega⟩) (fun r2 w2 hc=>?_);obtain⟨M2,Kj,⟨g2,_,_⟩,s2⟩:=hc;replace S:=S.jR s2 (aZ _);refine ab (ai (ad (az an rfl rfl rfl g2 rfl (ah rfl rfl (ab (aI ?_))))));exact aO rfl rfl ⟨rfl,S.back⟩
end Go.K
namespace Go.K
section
variable {P:Program} {r:Option Nat} {n:Nat} {L:Sl} {ds:List Deferred} {w:World} {K:Kt} {ops:Array Oper} {rest:List Oper} {d:Nat} {x y z:Operand} {ty:TypeId} {pos:String} {af:Array Edge}
variable {kt:TypeId} {M:aD} {b mb clock:Nat} {es:List MapEntry} {sn:Array Nat}
theorem Rg.rangeMap {t e:TypeId} (M:aD) (ht:P.underlying t=some (.map kt e)) (hx:ev L x=some (.map (some mb))) (hd:Nat.blt d n=true) (h:eE P kt w mb es clock)
  (k:∀b w',w.heap.size≤b→b<w'.heap.size→w'.heap[b]? =some (.mapIter (some mb) clock #[] clock)→Step M w (ins M b) w' aw→Rg P r n ops rest ((d,.pointer (some ⟨b,0,none⟩))::L) ds w' K):
  Rg P r n ops ({dst:=some d,op:= .range t x,type:=ty,pos,after:=af,guard:=none}::rest) L ds w K:=by
 refine .op (fun _ h=>by cases h) rfl rfl hd (.pointer (some ⟨w.heap.size,0,none⟩)) (w.alloc (.mapIter (some mb) clock #[] clock)) (fun ρ hρ=>?_) (k w.heap.size _ (aZ _) (by simp) (cu w _) ((cL M w _).own (aZ _) (by simp)));simp only[execOp,hρ x _ hx];simp[Instr.range,cz,run_underlying ht,cV h.at_,newObj,Sem.run]
theorem mz {sb:Option Nat} {s c:Nat} (hb:w.heap[b]? =some (.mapIter sb s sn c)):(getObj b).run P w= .ok (.mapIter sb s sn c) w:=by simp[getObj,Sem.run,hb]
theorem BG (h:eE P kt w mb es clock) (seen:Array Nat):(!seen.isEmpty&& !es.toArray.isEmpty&&es.toArray.all (fun x=>decide (x.born≥clock)))=false:=by
 cases es with
 |nil=>simp
 |cons e l=>
  have:=h.lt e (by simp);simp only[Bool.and_eq_false_iff];right;rw[eF];intro h2;rw[Array.all_eq_true_iff_forall_mem]at h2;have:=h2 e (by simp);simp at this;omega
theorem zN (k:Nat) (hk:0<k):∃j w1,j<k∧(∀M,Step M w M w1 aw)∧w1.heap=w.heap∧(choose (Question.mapNext k)).run P w= .ok j w1:=by
 by_cases hf:k≤1
 ·exact⟨0,w,hk,fun M=>al M w,rfl,by simp[choose,Sem.run,Question.forced,hf]⟩
 ·exact⟨_,w.drew,Nat.mod_lt _ hk,fun M=>k5 M w,rfl,by
   simp only[choose,Sem.run,Question.forced,decide_eq_true_eq,hf,if_false,Question.cut];rfl⟩
theorem Gu (h:eE P kt w mb es clock) (hb:w.heap[b]? =some (.mapIter (some mb) clock sn clock)) (hm:M b):
  ((∀e∈es,e.born∈sn)∧(Instr.next (.pointer (some ⟨b,0,none⟩)) false ty).run P w= .ok (.tuple #[.bool false]) w)∨
  ∃e w',e∈es∧e.born∉sn∧w'.heap[b]? =some (.mapIter (some mb) clock (sn.push e.born) clock)∧Step M w M w' (fun k=>k=b)∧(Instr.next (.pointer (some ⟨b,0,none⟩)) false ty).run P w= .ok (.tuple #[.bool true,e.key,e.val]) w':=by
 have dA:=aj hb;simp only[Instr.next,cz,mz hb,cY,cV h.at_,BG h sn,Bool.false_eq_true,if_false];have hL:∀e∈es.toArray.filter (fun e=> !sn.contains e.born),e.born<clock:=fun e he=>h.lt e (by simpa using(Array.mem_filter.1 he).1)
 have l2:∀e,e∈es.toArray.filter (fun e=> !sn.contains e.born)↔e∈es∧e.born∉sn:=fun e=>by simp[Array.mem_filter]
 generalize es.toArray.filter (fun e=> !sn.contains e.born)=Lf at hL l2 ⊢;have e1:Lf.filter (fun x=>decide (x.born<clock))=Lf:=Array.filter_eq_self.2 fun x hx=>by simpa using hL x hx
 have e2:Lf.filter (fun x=>decide (x.born≥clock))= #[]:=by
  rw[Array.filter_eq_empty_iff];intro x hx;have:=hL x hx;simp;omega
 simp only[e1,e2,Array.append_empty];by_cases h0:Lf.size=0
 ·left;have qg:Lf= #[]:=Array.eq_empty_of_size_eq_zero h0;subst qg;refine⟨fun e he=>?_,by simp[choose,Sem.run,Question.forced]⟩;by_cases hs:e.born∈sn
  ·exact hs
  ·exact absurd ((l2 e).2 ⟨he,hs⟩) (by simp)
 ·right;have eD:Lf.isEmpty=false:=by simp[Array.isEmpty,h0]
  simp only[eD,Bool.false_eq_true,if_false,Array.empty_append,Array.size_map];obtain⟨j,w1,hj,qd,hh1,fk⟩:=zN (P:=P) (w:=w) Lf.size (by omega);have py:w1.heap[b]? =some (.mapIter (some mb) clock sn clock):=by rw[hh1];exact hb
  have eo:=(l2 Lf[j]).1 (by simp);refine⟨Lf[j],{w1 with heap:=w1.heap.setIfInBounds b (.mapIter (some mb) clock (sn.push Lf[j].born) clock)},eo.1,eo.2,by simp[cH,hh1,dA],?_,?_⟩
  ·exact((qd M).bN (fun _ h=>h.elim) (fun k hk=>by subst hk;exact hm)).trans (gB M hm) (fun _ _ h=>h)
  ·simp only[fk,cY,Array.getElem?_map,Array.getElem?_eq_getElem hj,ek,cz];simp[setObj,Sem.run,py]
theorem Rg.IZ (hx:ev L x=some (.pointer (some ⟨b,0,none⟩))) (hb:w.heap[b]? =some (.mapIter (some mb) clock sn clock)) (hm:M b) (h:eE P kt w mb es clock) (hd:Nat.blt d n=true)
  (k1:∀e w',e∈es→e.born∉sn→w'.heap[b]? =some (.mapIter (some mb) clock (sn.push e.born) clock)→Step M w M w' (fun k=>k=b)→Rg P r n ops rest ((d,.tuple #[.bool true,e.key,e.val])::L) ds w' K)
  (k2:(∀e∈es,e.born∈sn)→Rg P r n ops rest ((d,.tuple #[.bool false])::L) ds w K):
  Rg P r n ops ({dst:=some d,op:= .next x false,type:=ty,pos,after:=af,guard:=none}::rest) L ds w K:=by
 rcases Gu (ty:=ty) h hb hm with⟨h1,h2⟩|⟨e,w',h1,h2,h3,h4,h5⟩
 ·refine .op (fun _ h=>by cases h) rfl rfl hd _ w (fun ρ hρ=>?_) (k2 h1);simp only[execOp,hρ x _ hx];simp[h2]
 ·refine .op (fun _ h=>by cases h) rfl rfl hd _ w' (fun ρ hρ=>?_) (k1 e w' h1 h2 h3 h4);simp only[execOp,hρ x _ hx];simp[h5]
theorem Rg.entry {e:MapEntry} {sn':Array Nat} (hx:ev L x=some (.pointer (some ⟨b,0,none⟩))) (hb:w.heap[b]? =some (.mapIter (some mb) clock (sn'.push e.born) clock)) (h:eE P kt w mb es clock) (he:e∈es) (hd:Nat.blt d n=true)
  (k:Rg P r n ops rest ((d,.tuple #[e.key,e.val])::L) ds w K):
  Rg P r n ops ({dst:=some d,op:= .entry x,type:=ty,pos,after:=af,guard:=none}::rest) L ds w K:=by
 have hf:es.find? (fun x=>x.born==e.born)=some e:=by
  rw[List.find?_eq_some_iff_getElem];obtain⟨i,hi⟩:=bR.1 he;obtain⟨h1,h2⟩:=au.1 hi;refine⟨by simp,i,h1,h2,fun j hj=>?_⟩;have pY:j<es.length:=by omega
  have:=fun q=>h.zH (aK pY) hi q
  simp only[oG,beq_eq_false_iff_ne,ne_eq];intro q;have:=this q;omega
 refine .op (fun _ h=>by cases h) rfl rfl hd _ w (fun ρ hρ=>?_) k;simp only[execOp,hρ x _ hx,Instr.entry,cz,mz hb,cY,cV h.at_];simp[hf,cz,cV h.at_]
end
end Go.K
namespace Go.K
open Go.Proofs
set_option maxRecDepth 10000
theorem filter_lt {α:Type} {p q:α→Bool} {a:α}:∀{l:List α},(∀x∈l,q x=true→p x=true)→a∈l→p a=true→q a=false→(l.filter q).length<(l.filter p).length
 |[],_,ha,_,_=>by cases ha
 |x::l,h,ha,hp,hq=>by
  have hle:(l.filter q).length≤(l.filter p).length:=by
   rw[←List.countP_eq_length_filter,←List.countP_eq_length_filter];exact List.countP_mono_left fun y hy=>h y (cI _ hy)
  rcases cW.1 ha with rfl|ha
  ·rw[nJ hp,List.filter_cons_of_neg (by simp[hq])];simp;omega
  ·have:=filter_lt (fun y hy=>h y (cI _ hy)) ha hp hq;by_cases hx:q x=true
   ·rw[nJ hx,nJ (h x (b9 ..) hx)];simp;omega
   ·rw[List.filter_cons_of_neg hx];by_cases TN:p x=true
    ·rw[nJ TN];simp;omega
    ·rw[List.filter_cons_of_neg TN];omega
theorem eE.Nc {P:Program} {kt:TypeId} {w:World} {b clock:Nat} {es:List MapEntry} (h:eE P kt w b es clock) {x y:MapEntry} (hx:x∈es) (hy:y∈es) (hk:x.key=y.key):x=y:=by
 obtain⟨i,hi⟩:=bR.1 hx;obtain⟨j,hj⟩:=bR.1 hy;rcases kh i j with gy|rfl|gy
 ·exact absurd hk (fP h.keys hi hj gy)
 ·exact bU (hi.symm.trans hj)
 ·exact absurd hk.symm (fP h.keys hj hi gy)
theorem eE.I0 {P:Program} {kt:TypeId} {w:World} {b clock:Nat} {es:List MapEntry} (h:eE P kt w b es clock) {x y:MapEntry} (hx:x∈es) (hy:y∈es) (hk:x.born=y.born):x=y:=by
 obtain⟨i,hi⟩:=bR.1 hx;obtain⟨j,hj⟩:=bR.1 hy;rcases kh i j with gy|rfl|gy
 ·exact absurd hk (fP h.born hi hj gy)
 ·exact bU (hi.symm.trans hj)
 ·exact absurd hk.symm (fP h.born hj hi gy)
def BH (w:World) (k:Nat):Prop:=∃m s sn c,w.heap[k]? =some (.mapIter m s sn c)
def CU (es:List MapEntry):Prop:=∀e∈es,∃t:Fd,e.key=kv t∧t.1.length≤140737488355328∧t.2.length≤140737488355328
theorem BI {yl bs mb clock:Nat} {es:List MapEntry} {J:List Fd→World→Prop} (w0:World) (hk:CU es) (WH:∀ts w w' N,J ts w→Step allM w allM w' N→(∀k,k<w.heap.size→N k→w0.heap.size≤k∧BH w k)→J ts w') (TO:∀ts w,J ts w→w.heap[bs]? =some (.cells #[.map (some mb)] 217 (0,0))∧eE Tryz.prog 78 w mb es clock) (hy:∀ts w (t:Fd),J ts w→(∃e∈es,e.key=kv t)→t∉ts→ts.length<es.length→su Tryz.prog yl [kv t].toArray w (fun r w'=>r= .bool true∧J (ts++[t]) w'∧∃N,Step allM w allM w' N∧∀k,N k→¬BH w k)) (h0:J [] w0):
  Spec Tryz.prog 188 #[.func (.yield yl) #[] #[],.pointer (some ⟨bs,0,none⟩)] w0 (fun v w=>∃ts,J ts w∧ts.Nodup∧∀t,t∈ts↔∃e∈es,e.key=kv t):=by
 obtain⟨gb,hW⟩:=TO _ _ h0;have hJ:=h0;clear h0;refine aR (args:=[_,_]) (fn:=Tryz.f188) Tryz.func188 rfl (n:=14) Tryz.ntmps188 ?_;have S:Step allM w0 allM w0 allM:=(al _ _).bN (fun _ h=>h.elim) (fun _ _=>trivial);refine ai (ad (az jL rfl rfl rfl (by assumption) rfl ?_));refine Rg.rangeMap allM jL rfl rfl hW (fun bi w1 py AU gi s1=>?_);replace s1:=s1.all;have:=aj gb;replace gb:=s1.aE gb;replace hJ:=WH _ _ _ _ hJ s1 (fun _ _ h=>h.elim);have:=S.size;replace S:=S.ax s1;refine ab (a7 ?_);refine dd (σ:=List Fd×Array Nat) (fun s=>[(0,.func (.yield yl) #[] #[]),(1,.pointer (some ⟨bs,0,none⟩)),(5,.pointer (some ⟨bi,0,none⟩))]) (fun s w=>J s.1 w∧Step allM w0 allM w allM∧w.heap[bi]? =some (.mapIter (some mb) clock s.2 clock)∧s.1.Nodup∧(∀e∈es,e.born∈s.2↔∃t∈s.1,e.key=kv t)∧(∀t∈s.1,∃e∈es,e.key=kv t)) (fun s=>(es.filter fun e=>decide (e.born∉s.2)).length) ([],#[]) (.cons rfl (.cons rfl (.cons rfl .nil))) ?_ ?_
 ·exact⟨hJ,S,gi,List.nodup_nil,fun e _=>by simp,fun t h=>by cases h⟩
 ·rintro⟨ts,sn⟩ w ⟨hJ,S,gi,kL,TP,l2⟩;dsimp only at hJ gi kL TP l2 ⊢;obtain⟨gb,hW⟩:=TO _ _ hJ;refine ai (ad ?_);refine Rg.IZ (M:=allM) rfl gi trivial hW rfl (fun Nd IN pK KC l4 rD=>?_) (fun WI=>?_)
  ·have gi0:=gi;replace gb:=rD.bB gb (fun hk=>by have hk:_=_:=hk;omega);replace hJ:=WH _ _ _ _ hJ rD (fun k hk h=>by have h:k=bi:=h;subst h;exact⟨py,_,_,_,_,gi0⟩);have:=S.size;replace S:=S.trans rD (fun k hk h=>by have h:_=_:=h;subst h;first|(exfalso;omega)|(show _≤_;omega)|exact .inl rfl|exact .inr rfl|exact .inr (.inl rfl)|exact .inr (.inr rfl)|exact .inr (.inr (.inl rfl))|exact rfl);have gi_:=l4;clear gi;have gi:=gi_;clear gi_;refine bu rfl rfl rfl (ab (ai (kY rfl (aT (a7 (ai (ad (Rg.entry rfl gi (TO _ _ hJ).2 pK rfl ?_))))))));obtain⟨t,I1,TQ,IP⟩:=hk _ pK;have Lr:t∉ts:=fun h=>KC ((TP _ pK).2 ⟨t,h,I1⟩)
   have dA:ts.length<es.length:=by
    have h1:((t::ts).map kv).Nodup:=dg.2 ((rV.2 ⟨Lr,kL⟩).imp fun h e=>h (qE e))
    have h2:=h1.length_le_of_subset (l₂:=es.map (·.key)) (fun x hx=>by
     obtain⟨u,hu,rfl⟩:=cx.1 hx;rcases cW.1 hu with rfl|hu
     ·rw[←I1];exact fw pK
     ·obtain⟨e,he,h⟩:=l2 u hu;rw[←h];exact fw he)
    simp at h2;omega
   rw[I1];refine bu rfl rfl rfl ?_;refine rI (A:=RT.fd) (M:=aw) sT rfl rfl rfl rfl rfl (zK TQ IP) (aq _ _) (Lt.none _) (fun u2 w2 rB s2 z2=>?_);replace s2:=s2.all;have:=aj gb;replace gb:=s2.aE gb;have:=aj gi;replace gi:=s2.aE gi;replace hJ:=WH _ _ _ _ hJ s2 (fun _ _ h=>h.elim);have:=S.size;replace S:=S.ax s2
   skip
   refine ab (ai (ad (ae rfl rfl ?_)));refine cM (M:=aw) (A:=RT.fd) cg rfl sT (by decide) rfl rfl rfl rB (aq _ _) (fun v3 uT=>?_);obtain rfl:=l5 uT;refine Rg.yield (vs:=[kv t]) rfl rfl rfl (hy _ _ t hJ ⟨_,pK,I1⟩ Lr dA) (fun r3 w3 hc=>?_);obtain⟨rfl,HZ,N3,s3,hN3⟩:=hc;clear l4;replace gi:=s3.bB gi (fun h=>hN3 _ h ⟨_,_,_,_,gi⟩);replace hJ:=HZ;clear HZ;obtain⟨gb,-⟩:=TO _ _ hJ;replace S:=S.trans s3 (fun _ _ _=>trivial);refine km rfl rfl (br (v':= .bool false) rfl (ab (fL rfl (aT ?_))));refine⟨rfl,(ts++[t],sn.push Nd.born),(.cons rfl (.cons rfl (.cons rfl .nil))),?_,?_⟩
   ·have qc:∀e∈es,e.born=Nd.born↔e.key=kv t:=fun e he=>by
     constructor
     ·intro h;rw[eE.I0 hW he pK h,I1]
     ·intro h;rw[eE.Nc hW he pK (h.trans I1.symm)]
    refine⟨hJ,S,gi,List.nodup_append.2 ⟨kL,by simp,fun a ha b hb h=>by simp at hb;subst hb;subst h;exact Lr ha⟩,fun e he=>?_,fun u hu=>?_⟩
    ·rw[Array.mem_push,TP e he,qc e he];constructor
     ·rintro(⟨u,h1,h2⟩|h)
      ·exact⟨u,kJ _ h1,h2⟩
      ·exact⟨t,by simp,h⟩
     ·rintro⟨u,h1,h2⟩;rcases dC.1 h1 with h1|h1
      ·exact .inl ⟨u,h1,h2⟩
      ·simp at h1;subst h1;exact .inr h2
    ·rcases dC.1 hu with hu|hu
     ·exact l2 u hu
     ·simp at hu;subst hu;exact⟨_,pK,I1⟩
   ·exact filter_lt (a:=Nd) (fun e _ h=>by simp only[decide_eq_true_eq,Array.mem_push,not_or]at h ⊢;exact h.1) pK (by simpa using KC) (by simp)
  ·refine bu rfl rfl rfl (ab (ai (fL rfl (cB ?_))))
   first|refine fF.nil ?_|simp+decide only[rz,jO,if_true,if_false]|skip
   exact jx rfl ⟨ts,hJ,kL,fun t=>⟨l2 t,fun⟨e,he,I1⟩=>by obtain⟨t',h1,h2⟩:=(TP e he).1 (WI e he);rw[←qE (h2.symm.trans I1)];exact h1⟩⟩
end Go.K
namespace Go.K
open Go.Proofs
set_option maxRecDepth 10000
theorem eB.any {α:Type} {A:RT α} (hA:∀M w M' w' x vs,A.R M w x vs→A.R M' w' x vs) {M M':aD} {w w':World}:∀{xs:List α} {C:List Value},eB A M w xs C→eB A M' w' xs C
 |[],_,h=>h
 |x::xs,C,h=>by
  obtain⟨vs,r,h1,h2,h3⟩:=h;exact⟨vs,r,h1,hA _ _ _ _ _ _ h2,eB.any hA h3⟩
theorem xZ (M:aD) (w:World) (M':aD) (w':World) (x:Fd) (vs:List Value) (h:RT.fd.R M w x vs):RT.fd.R M' w' x vs:=h
theorem Own.CV {α:Type} {A:RT α} (hA:∀M w M' w' x vs,A.R M w x vs→A.R M' w' x vs) {e:TypeId} {M N:aD} {w w':World} {base:Nat} {v:Value} {xs:List α} (h:Own A e M w base v xs) (s:Step allM w allM w' N) (hn:∀b,v.ownBlock=some b→¬N b):Own A e (jo v) w' base v xs:=by
 obtain⟨⟨C,h1,h2⟩,_⟩:=h;refine⟨⟨C,⟨h1.1,?_⟩,eB.any hA h2⟩,fun _ h=>h⟩;rcases h1.2 with h3|⟨g,cap,cur,h3,h4,h5,h6,h7,h8⟩
 ·exact .inl h3
 ·exact .inr ⟨g,cap,cur,h3,h4,by rw[s.same g (aj h5) (hn g (by rw[h3];rfl))];exact h5,h6,h7,h8⟩
theorem Own.isCells {α:Type} {A:RT α} {e:TypeId} {M:aD} {w:World} {base b:Nat} {v:Value} {xs:List α} (h:Own A e M w base v xs) (hb:v.ownBlock=some b):∃cs,w.heap[b]? =some (.cells cs e (0,0)):=by
 obtain⟨⟨C,h1,_⟩,_⟩:=h;rcases h1.2 with h3|⟨g,cap,cur,h3,h4,h5,_⟩
 ·rw[h3.1]at hb;cases hb
 ·rw[h3]at hb;cases hb;exact⟨_,h5⟩
structure Aq (w0:World) (bt D:Nat) (st:Loop) (v:Value) (ts:List Fd) (w:World):Prop where
 S:Step allM w0 allM w aw
 c:w.heap[bt]? =some (.cells #[v] 155 (0,0))
 o:Own RT.fd 78 (jo v) w w0.heap.size v ts
 d:w.heap[D]? =some (.deferred (some []))
 r:w.heap[D+1]? =some (.loop st)
 hb:w0.heap.size≤bt
 hD:w0.heap.size≤D
theorem Aq.step {w0 w w':World} {bt D:Nat} {st:Loop} {v:Value} {ts:List Fd} {N:aD} (h:Aq w0 bt D st v ts w) (s:Step allM w allM w' N) (hN:∀k,k<w.heap.size→N k→w0.heap.size≤k∧BH w k):Aq w0 bt D st v ts w':=by
 have no:∀{k o},w.heap[k]? =some o→(∀m s sn c,o≠ .mapIter m s sn c)→¬N k:=fun hk ho hn=>by
  obtain⟨_,m,s,sn,c,h'⟩:=hN _ (aj hk) hn;rw[hk]at h';exact ho m s sn c (bU h')
 refine⟨h.S.trans s (fun k hk hn=>?_),s.bB h.c (no h.c (by intros;simp)),h.o.CV xZ s (fun b hb=>?_),s.bB h.d (no h.d (by intros;simp)),s.bB h.r (no h.r (by intros;simp)),h.hb,h.hD⟩
 ·have:=(hN k (Nat.lt_of_lt_of_le hk h.S.size) hn).1;omega
 ·obtain⟨cs,hc⟩:=h.o.isCells hb;exact no hc (by intros;simp)
theorem Aq.tJ {w0 w:World} {bt D:Nat} {st st':Loop} {v:Value} {ts:List Fd} (h:Aq w0 bt D st v ts w):Aq w0 bt D st' v ts (w.putObj (D+1) (.loop st')):=by
 have s:Step allM w allM (w.putObj (D+1) (.loop st')) (fun k=>k=D+1):=fA trivial;have hD:=h.hD;refine⟨h.S.trans s (fun k hk hn=>by have hn:k=D+1:=hn;omega),s.bB h.c (fun hn=>by have hn:bt=D+1:=hn;have h1:=h.c;rw[hn,h.r]at h1;cases h1),h.o.CV xZ s (fun b hb hn=>?_),s.bB h.d (fun hn=>by have hn:D=D+1:=hn;omega),by have:=aj h.r;simp[World.putObj,cH,this],h.hb,h.hD⟩;have hn:b=D+1:=hn;obtain⟨cs,hc⟩:=h.o.isCells hb;rw[hn,h.r]at hc;cases hc
theorem zO {bs mb clock:Nat} {es:List MapEntry} (w0:World) (hk:CU es) (TR:es.length≤100000000) (I2:w0.heap[bs]? =some (.cells #[.map (some mb)] 217 (0,0))) (hW:eE Tryz.prog 78 w0 mb es clock):
  Spec Tryz.prog 237 #[.slice none 0 0,.func (.func 188) #[] [.pointer (some ⟨bs,0,none⟩)].toArray] w0 (fun v w=>∃ts:List Fd,ts.Nodup∧(∀t,t∈ts↔∃e∈es,e.key=kv t)∧Own RT.fd 78 (jo v) w w0.heap.size v ts∧Step allM w0 allM w aw):=by
 refine sz (args:=[_,_]) (fn:=Tryz.f237) Tryz.func237 rfl (n:=13) Tryz.ntmps237 (ai (ad ?_));refine iJ allM rfl rfl (fun bt w1 py ad8 gt s1=>?_);change w1.heap[bt]? =some (.cells #[.slice none 0 0] 155 (0,0))at gt;replace s1:=s1.all;refine ah rfl rfl (ab (ai (ai (ad (ae rfl rfl (ab (a7 ?_)))))));refine T.range (gf:=188) (lb:=[.pointer (some ⟨bs,0,none⟩)].toArray) rfl U2 (fun rec sy=>?_);obtain⟨D,hD⟩:∃D,D=w1.heap.size:=⟨_,rfl⟩;have sA:Step allM w1 allM ((w1.alloc (.deferred (some []))).alloc (.loop (rec .ready none))) aw:=(cL _ _ _).ax (cL _ _ _)
 have h0:Aq w0 bt D (rec .ready none) (.slice none 0 0) [] ((w1.alloc (.deferred (some []))).alloc (.loop (rec .ready none))):=by
  refine⟨s1.ax sA,sA.aE gt,eh _ _ _ _ _,?_,?_,py,by rw[hD];exact s1.size⟩
  ·rw[hD];exact(cL allM (w1.alloc _) _).aE (cu w1 _)
  ·rw[hD];have:=cu (w1.alloc (.deferred (some []))) (.loop (rec .ready none));rwa [World.size_alloc]at this
 rw[←hD]at sy ⊢;have hz:=h0.S.size;refine Spec.mono (BI (J:=fun ts w=>∃v,Aq w0 bt D (rec .ready none) v ts w) _ hk (fun ts w w' N ⟨v,h⟩ s hN=>⟨v,h.step s (fun k hk hn=>⟨fS hz (hN k hk hn).1,(hN k hk hn).2⟩)⟩) (fun ts w ⟨v,h⟩=>⟨h.S.aE I2,hW.aW h.S⟩) (fun ts wr t hJ l2 Lr dA=>?_) ⟨_,h0⟩) (fun _ w3 h3=>?_)
 ·obtain⟨v,h⟩:=hJ;obtain⟨e,he,WK⟩:=l2;obtain⟨t',WL,TQ,IP⟩:=hk e he;obtain rfl:=qE (WK.symm.trans WL);have hzr:=aj h.r;refine qk (ps:=[7]) (vs:=[kv t]) sy h.r rfl (by decide) (ad ?_);refine rI (A:=RT.fd) (M:=fun k=>k=D+1) sT rfl rfl rfl rfl rfl (zK TQ IP) (aq _ _) (fun k hk=>by have hk:k=D+1:=hk;omega) (fun u2 w2 rB s2 z2=>?_);replace s2:=s2.all
  skip
  refine ab ?_;refine⟨rfl,s2.aE h.r,?_⟩;have h4:=(h.step s2 (fun _ _ h=>h.elim)).tJ (st':=rec .busy none);have WM:Step (fun k=>k=D+1) w2 (fun k=>k=D+1) (w2.putObj (D+1) (.loop (rec .busy none))) (fun k=>k=D+1):=fA rfl;have s3:=WM.all;have ED:=rB.le (by decide) WM.le;clear WM;generalize w2.putObj (D+1) _=w4 at h4 s3 ED ⊢;refine a7 (ad (az gZ rfl rfl rfl h4.c rfl ?_));refine cM (M:=fun k=>k=D+1) (A:=RT.fd) cg rfl sT (by decide) rfl rfl rfl ED (aq _ _) (fun v3 uT=>?_);obtain rfl:=l5 uT;refine fa (A:=RT.fd) (hn:=by decide) (M:=jo v) gZ sT (by decide) rfl rfl (fun b hb=>(h4.o.base b hb).2) (zK TQ IP) (.inl rfl) (fun u5 w5 FD s5=>?_);refine cQ (M:=jo v) (base:=w0.heap.size) gZ sT rfl rfl rfl rfl (h4.o.aW s5) FD (aq _ _) (by simp;omega) (by simp;omega) (fS h4.S.size s5.size) (fun v6 M6 w6 wG s6=>?_);have gc:=s6.all.bB (s5.all.aE h4.c) (fun hn=>h4.o.ef h4.c (by decide) hn);refine bL (M:=allM) UJ rfl rfl gc rfl (by obtain⟨_,_,he,_⟩:=wG.isSlice;rw[he];rfl) trivial (fun w7 gc7 s7=>?_);refine ab ?_
  have WN:∀k,jo v k→¬BH wr k:=fun k hk ⟨_,_,_,_,h9⟩=>by
   obtain⟨cs,hc⟩:=h.o.isCells hk;rw[hc]at h9;cases h9
  have pr:∀k,k<wr.heap.size→k=D+1→¬BH wr k:=fun k _ hk ⟨_,_,_,_,h9⟩=>by subst hk;rw[h.r]at h9;cases h9
  have pc:∀k,k<wr.heap.size→k=bt→¬BH wr k:=fun k _ hk ⟨_,_,_,_,h9⟩=>by subst hk;rw[h.c]at h9;cases h9
  have h7:Aq w0 bt D (rec .busy none) v6 (ts++[t]) w7:=by
   have nb:∀b,v6.ownBlock=some b→b≠bt:=fun b hb hn=>by subst hn;exact wG.ef gc (by decide) hb
   refine⟨?_,gc7,wG.CV xZ s7 nb,?_,?_,h.hb,h.hD⟩
   ·refine((h4.S.ax s5.all).trans s6.all (fun k hk hn=>?_)).trans s7 (fun k hk hn=>?_)
    ·have:=(h4.o.base k hn).1;omega
    ·have hn:k=bt:=hn;have:=h.hb;omega
   ·exact s7.bB (s6.all.bB (s5.all.aE h4.d) (fun hn=>by obtain⟨cs,hc⟩:=h4.o.isCells hn;rw[h4.d]at hc;cases hc)) (fun hn=>by have hn:D=bt:=hn;have h1:=h.c;rw[←hn,h.d]at h1;cases h1)
   ·exact s7.bB (s6.all.bB (s5.all.aE h4.r) (fun hn=>by obtain⟨cs,hc⟩:=h4.o.isCells hn;rw[h4.r]at hc;cases hc)) (fun hn=>by have hn:D+1=bt:=hn;have h1:=h.c;rw[←hn,h.r]at h1;cases h1)
  have s8:Step allM w7 allM (w7.putObj (D+1) (.loop (rec .ready none))) (fun k=>k=D+1):=fA trivial;exact⟨h7.r,rfl,⟨v6,h7.tJ⟩,fun k=>¬BH wr k,(((((s2.bN (fun _ h=>h.elim) (fun _ _=>trivial)).trans s3 pr).ax s5.all).trans s6.all (fun k _ hn=>WN k hn)).trans s7 pc).trans s8 pr,fun _ h=>h⟩
 ·obtain⟨ts,⟨v,h⟩,kL,l2⟩:=h3;left;refine⟨h.r,?_⟩;have h5:=h.tJ (st':=rec .exhausted none);generalize w3.putObj (D+1) _=wE at h5 ⊢;refine ai (ad (az gZ rfl rfl rfl h5.c rfl (ah rfl rfl (ab (aI ?_)))));have sE:Step allM wE allM (wE.putObj D (.deferred none)) (fun k=>k=D):=fA trivial;have hDD:=h.hD;exact LB rfl rfl h5.d ⟨ts,kL,l2,h5.o.CV xZ sE (fun b hb hn=>by have hn:b=D:=hn;obtain⟨cs,hc⟩:=h5.o.isCells hb;rw[hn,h5.d]at hc;cases hc),h5.S.trans sE (fun k hk hn=>by have hn:k=D:=hn;omega)⟩
end Go.K
namespace Go.K
open Go.Proofs
set_option maxRecDepth 10000
theorem x7 {bs mb clock:Nat} {es:List MapEntry} (w0:World) (hk:CU es) (TR:es.length≤100000000) (I2:w0.heap[bs]? =some (.cells #[.map (some mb)] 217 (0,0))) (hW:eE Tryz.prog 78 w0 mb es clock):
  Spec Tryz.prog 186 #[.func (.func 188) #[] [.pointer (some ⟨bs,0,none⟩)].toArray] w0 (fun v w=>∃ts:List Fd,ts.Nodup∧(∀t,t∈ts↔∃e∈es,e.key=kv t)∧Own RT.fd 78 (jo v) w w0.heap.size v ts∧Step allM w0 allM w aw):=by
 refine aR (args:=[_]) (fn:=Tryz.f186) Tryz.func186 rfl (n:=5) Tryz.ntmps186 (ai (ad (ah rfl rfl (ab (ai (ad (ae rfl rfl ?_)))))));refine aJ rfl rfl Vd (zO _ hk TR I2 hW) (fun r w1 hc=>?_);refine ah rfl rfl (ab (aI ?_));exact aO rfl rfl hc
def du (t:Fd):List UInt8:=t.1++[0]++t.2
theorem Gv {M:aD} {t:Fd} (w0:World) (hM:Lt M w0) (h1:t.1.length≤1000000) (h2:t.2.length≤1000000):
  Spec Tryz.prog 80 #[kv t] w0 (fun v w=>v= .string ⟨(du t).toArray⟩∧Step M w0 M w aw):=by
 refine aR (args:=[_]) (fn:=Tryz.f80) Tryz.func80 rfl (n:=9) Tryz.ntmps80 ?_;have S:Step M w0 M w0 aw:=(al _ _).bN (fun _ h=>h.elim) (fun _ h=>h.elim);refine ai (ad ?_);refine Rg.ly (A:=RT.fd) rfl rfl hM (zK (by omega) (by omega)) rfl (fun u0 w1 cA s0 _=>?_);replace hM:=s0.lt hM;have:=S.size;replace S:=S.ax s0;refine ah rfl rfl (ab (ai (ad ?_)));refine aM (M:=M) (A:=RT.fd) (B:=RT.str) cg rfl rfl I9 (by decide) (MB) rfl rfl (by decide) (by assumption) (by repeat (first|exact aq _ _|refine aU (bm (by assumption)) ?_)) (fun uP jC=>?_);refine bZ (M:=M) aF rfl rfl rfl rfl rfl jC (aq _ _) (fun v1 uw=>?_);obtain rfl:=fH uw;refine Rg.cat (p:=t.1) (q:=[0]) rfl rfl rfl (by simp;omega) ?_;refine aM (M:=M) (A:=RT.fd) (B:=RT.str) cg rfl rfl I9 (by decide) (TD) rfl rfl (by decide) (by assumption) (by repeat (first|exact aq _ _|refine aU (bm (by assumption)) ?_)) (fun IM iF=>?_);refine bZ (M:=M) aF rfl rfl rfl rfl rfl iF (aq _ _) (fun v4 pz=>?_);obtain rfl:=fH pz;refine Rg.cat (p:=t.1++[0]) (q:=t.2) rfl rfl rfl (by simp;omega) (ah rfl rfl (ab (aI ?_)));exact aO rfl rfl ⟨rfl,S⟩
end Go.K
namespace Go.K
open Go.Proofs
set_option maxRecDepth 10000
theorem x8 (a b:List UInt8) (w:World):Spec Tryz.prog 137 #[.string ⟨a.toArray⟩,.string ⟨b.toArray⟩] w (fun v w'=>v= .int .i64 (Lib.compareBytes a b)∧w'=w):=(Any.strings_Compare Tryz.IE ⟨a.toArray⟩ ⟨b.toArray⟩ w).mono fun e w' ⟨h1,h2⟩=>⟨_,h1,rfl,h2⟩
end Go.K
namespace Go.K
section
variable {P:Program} {r:Option Nat} {n:Nat} {L:Sl} {ds:List Deferred} {w:World} {K:Kt} {ops:Array Oper} {rest:List Oper} {d:Nat} {x:Operand} {ty:TypeId} {pos:String} {af:Array Edge}
theorem gH.tE {id:Nat} {l:List Oper} (hm:P.follows .mixedOrders=true) (cy:dN l 0=true) (h:gH P r n l L ds (w.drewN 1) K):T P r n (.region id l.toArray true) L ds w K:=by
 refine⟨fun a ha=>wpIn_region_draw fun t=>?_⟩;simp only[Region.schedule,hm,Bool.true_or,if_true,Region.linearise];obtain⟨J,h1,h2,h3,h4⟩:=h a ha;refine lO (J:=J) cy (fun {D D' a w} hi hD=>h1 D D' a w hi hD) (fun {D a' w' j o rest} hj ho mP hp ky hi hk=>h2 _ _ _ _ _ _ _ hj ho mP hp ky hi hk) h3 _ t _ a _ (by simp) (by simp[List.countP_replicate]) (fun i o h1 h2=>?_) (h1 _ _ _ _ h4 fun i _=>?_)
 ·simp[Array.getElem?_replicate]at h2
 ·simp[Array.getElem?_replicate]
theorem T.Nf {id:Nat} {l l':List Oper} (π:List Nat) (m:Nat) (fl:List Nat) (c:Nat) (N:aD) (hm:P.follows .mixedOrders=true) (Fi:vU π l=l') (rf:dN l 0=true) (hπ:j4 π l.length=true) (qb:Nat.blt m l'.length=true) (cy:dN l' 0=true) (nL:jf l' m=true) (Dh:jX l' m fl c=true)
  (h:kn P r n l'.toArray (l'.take m) L ds (w.drewN 1) (fun L'=>(∀j o,j∈fl→l'[j]? =some o→bI P N (w.drewN 1) L' o)∧qh P r n l'.toArray N (w.drewN 1) K c (l'.drop m) L' ds (w.drewN 1))):T P r n (.region id l.toArray true) L ds w K:=by
 subst Fi;exact gH.tE hm rf (.perm π hπ rf (y2 m fl c N qb cy nL Dh h))
theorem Rg.Ng {e:TypeId} {v:Value} (hx:ev L x=some v) (hd:Nat.blt d n=true) (k:Rg P r n ops rest ((d,.pointer (some ⟨w.heap.size,0,none⟩))::L) ds (w.alloc (.cells v.cells e (0,0))) K):
  Rg P r n ops ({dst:=some d,op:= .box e x,type:=ty,pos,after:=af,guard:=none}::rest) L ds w K:=by
 refine .op (fun _ h=>by cases h) rfl rfl hd _ (w.alloc (.cells v.cells e (0,0))) (fun ρ hρ=>?_) k;simp only[execOp,hρ x _ hx];simp[Instr.box,newVar,newRow,newObj,Sem.run]
theorem BJ (w:World) (o:Obj):w.alloc o=Go.Sort.grow w #[o]:=by
 unfold World.alloc Go.Sort.grow;congr 1
theorem BK (w:World) (os:Array Obj) (q:Nat):(Go.Sort.grow w os).drewN q=Go.Sort.grow (w.drewN q) os:=rfl
end
end Go.K
namespace Go.K
open Go.Proofs
set_option maxRecDepth 10000
abbrev eZ (t:Fd):Obj:= .cells #[.string ⟨t.1.toArray⟩,.string ⟨t.2.toArray⟩] 78 (0,0)
theorem Gw {t:Fd} (w0:World) (h1:t.1.length≤1000000) (h2:t.2.length≤1000000):
  Spec Tryz.prog 80 #[kv t] w0 (fun v w=>v= .string ⟨(du t).toArray⟩∧w=w0.alloc (eZ t)):=by
 refine aR (args:=[_]) (fn:=Tryz.f80) Tryz.func80 rfl (n:=9) Tryz.ntmps80 (ai (ad (Rg.Ng rfl rfl ?_)));have gb:=cu w0 (eZ t);change Rg _ _ _ _ _ _ _ (w0.alloc (eZ t)) _;generalize hw:w0.alloc (eZ t)=w1 at gb ⊢;refine ah rfl rfl (ab (ai (ad (aB (o':=0) cg rfl rfl I9 (by decide) rfl rfl (az aF rfl rfl rfl gb rfl (Rg.cat (p:=t.1) (q:=[0]) rfl rfl rfl (by simp;omega) (aB (o':=1) cg rfl rfl I9 (by decide) rfl rfl (az aF rfl rfl rfl gb rfl (Rg.cat (p:=t.1++[0]) (q:=t.2) rfl rfl rfl (by simp;omega) (ah rfl rfl (ab ?_)))))))))));refine aI ?_;exact aO rfl rfl ⟨rfl,rfl⟩
theorem I4 {s t:Fd} (w0:World) (h1:s.1.length≤1000000) (h2:s.2.length≤1000000) (h3:t.1.length≤1000000) (h4:t.2.length≤1000000):
  Spec Tryz.prog 136 #[kv s,kv t] w0 (fun v w=>v= .int .i64 (Lib.compareBytes (du s) (du t))∧w=((((w0.alloc (eZ s)).alloc (eZ t)).drewN 1).alloc (eZ s)).alloc (eZ t)):=by
 refine aR (args:=[_,_]) (fn:=Tryz.f136) Tryz.func136 rfl (n:=10) Tryz.ntmps136 (ai (ad (Rg.Ng rfl rfl ?_)));change Rg _ _ _ _ _ _ _ (w0.alloc (eZ s)) _;refine Rg.Ng rfl rfl ?_;change Rg _ _ _ _ _ _ _ ((w0.alloc (eZ s)).alloc (eZ t)) _;have g1:((w0.alloc (eZ s)).alloc (eZ t)).heap[w0.heap.size]? =some (eZ s):=(cL aw _ _).aE (cu w0 _);have g2:=cu (w0.alloc (eZ s)) (eZ t);have kp:=iw aw (((w0.alloc (eZ s)).alloc (eZ t)).drewN 1);refine ah rfl rfl (ab (ai ?_));apply T.Nf [0,2,1,3,4,5] 2 [1] 1 aw mixed
 ·simp+decide only[vU,qq,eL,List.map_nil,ur,uu,p6,ek,mL,List.idxOf_cons,cond_true,cond_false,Nat.reduceBEq,Nat.reduceAdd,beq_self_eq_true];rfl
 ·rfl
 ·rfl
 ·rfl
 ·rfl
 ·rfl
 ·rfl
 have g1':(((w0.alloc (eZ s)).alloc (eZ t)).drewN 1).heap[w0.heap.size]? =some (eZ s):=g1;have g2':(((w0.alloc (eZ s)).alloc (eZ t)).drewN 1).heap[(w0.alloc (eZ s)).heap.size]? =some (eZ t):=g2;refine fX (vs:=[.string ⟨s.1.toArray⟩,.string ⟨s.2.toArray⟩]) cg rfl sT rfl rfl rfl g1' ?_;refine ab ⟨rfl,rfl,rfl,?_⟩;refine fX (vs:=[.string ⟨t.1.toArray⟩,.string ⟨t.2.toArray⟩]) cg rfl sT rfl rfl rfl g2' ?_;refine ab ⟨rfl,rfl,rfl,?_⟩;refine fo ?_;refine⟨gO ⟨ey rfl (by assumption) (by first|assumption|exact fun h=>h|(intro h;have h:_=_:=h;omega)),trivial⟩,?_⟩;replace kp:=kp.o0 (cL aw (((w0.alloc (eZ s)).alloc (eZ t)).drewN 1) (eZ s));refine aJ rfl rfl Tx (Gw (t:=s) _ h1 h2) (fun r5 w5 hc=>?_);obtain⟨rfl,rfl⟩:=hc;refine(fun(kp:ed _ _ _)=>ab ⟨rfl,rfl,fun _=>kp,?_⟩) (by first|exact kp|exact kp.o0 (by assumption)|exact kp.goN (by assumption)|exact kp.go (by assumption) (fun _ _ h=>by first|exact h|exact h.elim));refine aJ rfl rfl Tx (Gw (t:=t) _ h3 h4) (fun r6 w6 hc=>?_);obtain⟨rfl,rfl⟩:=hc;refine ab ⟨rfl,rfl,fun h=>absurd rfl h,?_⟩;refine aJ rfl rfl UT (x8 _ _ _) (fun r7 w7 hc=>?_);obtain⟨rfl,rfl⟩:=hc;refine ab ⟨rfl,rfl,fun h=>absurd rfl h,?_⟩;refine ah rfl rfl ?_;refine ab ⟨rfl,rfl,fun h=>absurd rfl h,?_⟩;refine oC (aI ?_);exact aO rfl rfl ⟨rfl,rfl⟩
end Go.K
namespace Go.K
open Go.Lib (compareBytes)
theorem lC (a b:UInt8) (x y:List UInt8):compareBytes (a::x) (b::y)=if a.toNat<b.toNat then-1 else if b.toNat<a.toNat then 1 else compareBytes x y:=by
 rw[compareBytes];simp only[UInt8.lt_iff_toNat_lt]
theorem tK:∀a,compareBytes a a=0
 |[]=>rfl
 |a::x=>by rw[lC,if_neg (mB _),if_neg (mB _)];exact tK x
theorem nC:∀{a b},compareBytes a b=0→a=b
 |[],[],_=>rfl
 |[],_::_,h=>by simp[compareBytes]at h
 |_::_,[],h=>by simp[compareBytes]at h
 |a::x,b::y,h=>by
  rw[lC]at h
  split at h
  ·omega
  ·split at h
   ·omega
   ·rw[nC h,UInt8.toNat_inj.1 (show a.toNat=b.toNat by omega)]
theorem l9:∀a b,compareBytes a b= -compareBytes b a
 |[],[]=>rfl
 |[],_::_=>rfl
 |_::_,[]=>rfl
 |a::x,b::y=>by
  rw[lC,lC,l9 x y]
  split<;>split<;>first|omega|rfl
theorem nR:∀{a b c},compareBytes a b<0→compareBytes b c<0→compareBytes a c<0
 |[],[],_,h,_=>by simp[compareBytes]at h
 |_::_,[],_,h,_=>by simp[compareBytes]at h
 |_,_::_,[],_,h=>by simp[compareBytes]at h
 |[],_::_,_::_,_,_=>by simp[compareBytes]
 |a::x,b::y,c::z,h1,h2=>by
  rw[lC]at h1 h2 ⊢
  split at h1
  ·split at h2
   ·rw[if_pos (by omega)];omega
   ·split at h2
    ·omega
    ·rw[if_pos (by omega)];omega
  ·split at h1
   ·omega
   ·split at h2
    ·rw[if_pos (by omega)];omega
    ·split at h2
     ·omega
     ·rw[if_neg (by omega),if_neg (by omega)];exact nR h1 h2
theorem CW {α:Type} (f:α→List UInt8):Go.Sort.SWO (Go.Proofs.ltOf fun x y=>compareBytes (f x) (f y)) where
 irrefl x:=by simp[Go.Proofs.ltOf,tK]
 trans x y z h1 h2:=by
  simp only[Go.Proofs.ltOf,decide_eq_true_eq]at*
  exact nR h1 h2
 ntrans x y z h1 h2:=by
  simp only[Go.Proofs.ltOf,decide_eq_false_iff_not]at*
  intro h3;by_cases e1:compareBytes (f x) (f y)=0
  ·rw[nC e1]at h3;exact h2 h3
  ·by_cases e2:compareBytes (f y) (f z)=0
   ·rw[nC e2]at h1;exact h1 h3
   ·have n1:=l9 (f x) (f y);have n2:=l9 (f y) (f z);have n3:=l9 (f x) (f z);have:compareBytes (f z) (f x)<0:=nR (b:=f y) (by omega) (by omega);omega
end Go.K
namespace Go.Proofs
open Go.Shelf
def Tryz.BL:Go.Shelf.Ren:=⟨fun|6=>187|15=>115|14=>238|28=>172|29=>173|20=>272|21=>273|22=>274|23=>275|24=>276|25=>277|26=>278|27=>279|46=>294|47=>218|48=>219|49=>295|50=>296|57=>303|n=>n,fun|22=>155|24=>78|25=>225|3=>3|39=>189|0=>0|53=>257|55=>190|4=>4|46=>251|45=>250|50=>202|5=>5|9=>9|66=>296|70=>300|76=>327|77=>328|n=>n,fun|n=>n⟩
theorem Tryz.Gx:Go.Proofs.SlLaysF0.n6 Tryz.prog Tryz.BL:={
 mixed:=by kernel_rfl
 f6:=⟨Tryz.f187.name,by decide,Tryz.func187.trans (congrArg some (by kernel_rfl))⟩
 f14:=⟨Tryz.f238.name,by decide,Tryz.func238.trans (congrArg some (by kernel_rfl))⟩
 f15:=Tryz.func115.trans (congrArg some (by kernel_rfl))
 f20:=⟨Tryz.f272.name,by decide,Tryz.func272.trans (congrArg some (by kernel_rfl))⟩
 f21:=⟨Tryz.f273.name,by decide,Tryz.func273.trans (congrArg some (by kernel_rfl))⟩
 f22:=⟨Tryz.f274.name,by decide,Tryz.func274.trans (congrArg some (by kernel_rfl))⟩
 f23:=⟨Tryz.f275.name,by decide,Tryz.func275.trans (congrArg some (by kernel_rfl))⟩
 f24:=⟨Tryz.f276.name,by decide,Tryz.func276.trans (congrArg some (by kernel_rfl))⟩
 f25:=⟨Tryz.f277.name,by decide,Tryz.func277.trans (congrArg some (by kernel_rfl))⟩
 f26:=⟨Tryz.f278.name,by decide,Tryz.func278.trans (congrArg some (by kernel_rfl))⟩
 f27:=⟨Tryz.f279.name,by decide,Tryz.func279.trans (congrArg some (by kernel_rfl))⟩
 f28:=Tryz.func172.trans (congrArg some (by kernel_rfl))
 f29:=Tryz.func173.trans (congrArg some (by kernel_rfl))
 f46:=⟨Tryz.f294.name,by decide,Tryz.func294.trans (congrArg some (by kernel_rfl))⟩
 f47:=Tryz.func218.trans (congrArg some (by kernel_rfl))
 f48:=Tryz.func219.trans (congrArg some (by kernel_rfl))
 f49:=⟨Tryz.f295.name,by decide,Tryz.func295.trans (congrArg some (by kernel_rfl))⟩
 f50:=⟨Tryz.f296.name,by decide,Tryz.func296.trans (congrArg some (by kernel_rfl))⟩
 f57:=⟨Tryz.f303.name,by decide,Tryz.func303.trans (congrArg some (by kernel_rfl))⟩
 t0:=gX
 a0:=rQ
 z0:=ov
 v0:=iP
 t3:=an
 a3:=rR
 z3:=ox
 v3:=iQ
 t4:=gY
 a4:=Tryz.isAgg4
 z4:=Tryz.sizeOf4
 v4:=o4
 t5:=cd
 a5:=Tryz.isAgg5
 z5:=Tryz.sizeOf5
 v5:=Tryz.zeroValue5
 t9:=aF
 a9:=rS
 z9:=oy
 v9:=iR
 t22:=gZ
 a22:=Tryz.isAgg155
 z22:=Tryz.sizeOf155
 v22:=Tryz.zeroValue155
 t25:=Tryz.underlying225
 a25:=Tryz.isAgg225
 z25:=Tryz.sizeOf225
 v25:=Tryz.zeroValue225
 t39:=Tryz.underlying189
 a39:=Tryz.isAgg189
 z39:=Tryz.sizeOf189
 v39:=Tryz.zeroValue189
 t45:=Tryz.underlying250
 a45:=Tryz.isAgg250
 z45:=Tryz.sizeOf250
 v45:=Tryz.zeroValue250
 t46:=Tryz.underlying251
 a46:=Tryz.isAgg251
 z46:=Tryz.sizeOf251
 v46:=Tryz.zeroValue251
 t50:=Tryz.underlying202
 a50:=Tryz.isAgg202
 z50:=Tryz.sizeOf202
 v50:=Tryz.zeroValue202
 t53:=Tryz.underlying257
 a53:=Tryz.isAgg257
 z53:=Tryz.sizeOf257
 v53:=Tryz.zeroValue257
 t55:=oz
 a55:=Tryz.isAgg190
 z55:=Tryz.sizeOf190
 v55:=Tryz.zeroValue190
 t66:=Tryz.underlying296
 a66:=Tryz.isAgg296
 z66:=Tryz.sizeOf296
 v66:=Tryz.zeroValue296
 t70:=Tryz.underlying300
 a70:=Tryz.isAgg300
 z70:=Tryz.sizeOf300
 v70:=Tryz.zeroValue300
 t76:=Tryz.underlying327
 a76:=Tryz.isAgg327
 z76:=Tryz.sizeOf327
 v76:=Tryz.zeroValue327
 t77:=Tryz.underlying328
 a77:=Tryz.isAgg328
 z77:=Tryz.sizeOf328
 v77:=Tryz.zeroValue328}
end Go.Proofs
namespace Go.K
open Go.Proofs
set_option maxRecDepth 10000
open Go.Proofs Go.Sort
abbrev TK:Type:={t:Fd // (0:UInt8)∉t.1∧t.1.length≤1000000∧t.2.length≤1000000}
instance aay:Inhabited TK:=⟨⟨([],[]),by simp,by simp,by simp⟩⟩
def uV (x:TK):List Value:=[.string ⟨x.1.1.toArray⟩,.string ⟨x.1.2.toArray⟩]
def EH (x y:TK):Int:=Lib.compareBytes (du x.1) (du y.1)
theorem tL:∀{a b x y:List UInt8},(0:UInt8)∉a→(0:UInt8)∉b→a++[0]++x=b++[0]++y→a=b∧x=y
 |[],[],_,_,_,_,h=>⟨rfl,by simpa using h⟩
 |[],c::b,_,_,_,hb,h=>by
  simp at h;exact absurd (by rw[←h.1];exact b9 ..) hb
 |c::a,[],_,_,ha,_,h=>by
  simp at h;exact absurd (by rw[h.1];exact b9 ..) ha
 |c::a,e::b,x,y,ha,hb,h=>by
  simp only[List.cons_append,List.cons.injEq]at h;obtain⟨h1,h2⟩:=tL (fun h=>ha (cI _ h)) (fun h=>hb (cI _ h)) h.2;exact⟨by rw[h.1,h1],h2⟩
theorem WO (w:World):(isAgg 78).run Tryz.prog w= .ok true w:=by simp[isAgg,cz,run_underlying cg]
theorem Q0 (w:World):(Go.sizeOf 78).run Tryz.prog w= .ok 2 w:=by
 obtain⟨i,h1,_,h2,_⟩:=sT.get;simp[Go.sizeOf,typeInfo,cz,program,Sem.run,h1,h2]
theorem Gy (jw off size:Nat) (w:World):CmpLays Tryz.prog 136 #[] uV 2 EH jw off size w:=fun m os dk hs x y=>
 (show Calls Tryz.prog 136 #[kv x.1,kv y.1] (sortWorldK uV 2 w jw off m dk os) (fun e w'=>∃v,e= .returned v∧_∧_)from I4 (s:=x.1) (t:=y.1) _ x.2.2.1 x.2.2.2 y.2.2.1 y.2.2.2).mono fun e w' ⟨v,h1,h2,h3⟩=>⟨by rw[h1,h2];rfl,1,#[eZ x.1,eZ y.1,eZ x.1,eZ y.1],by rw[h3];simp only[BJ,BK,Go.Sort.grow_grow];rfl⟩
theorem Q1 (jw off cap:Nat) (d:Array TK) (w:World) (hH:HoldsK uV 2 w jw off d) (hblk:jw<w.heap.size) (jj:d.size<4611686018427387904):
  Spec Tryz.prog 187 #[.slice (some ⟨jw,off,none⟩) d.size cap,.func (.func 136) #[] #[]] w (fun v w'=>v= .tuple #[]∧∃n os,w'=sortWorldK uV 2 w jw off n (d.toList.mergeSort fun x y=> !(Go.Proofs.ltOf EH) y x).toArray os):=by
 exact(Go.Proofs.AnyQ.slices_SortFunc_total Tryz.Gx 2 WO Q0 uV (fun _=>rfl) (fun x v hv=>by simp[uV]at hv;rcases hv with rfl|rfl<;>rfl) EH (CW _) 136 #[] jw off cap d w US (Gy jw off d.size w) hH hblk jj (fun x y h1 h2=>by
  have h0:EH x y=0:=by
   have:=l9 (du x.1) (du y.1);simp only[Go.Proofs.ltOf,decide_eq_false_iff_not]at h1 h2;unfold EH at h1 h2 ⊢;omega
  have h3:=nC h0;obtain⟨h4,h5⟩:=tL x.2.1 y.2.1 h3;exact Subtype.ext (Prod.ext h4 h5))).mono fun e w' ⟨h1,h2⟩=>⟨_,h1,rfl,h2⟩
end Go.K
namespace Go.K
set_option linter.unusedSectionVars false
open Go.Sort Go.Proofs
section
variable {α:Type} [Inhabited α] {enc:α→List Value} {k:Nat}
theorem rj (hk:∀x,(enc x).length=k) (h0:0<k):∀(l:List α) (t:Nat),(l.flatMap enc)[t]? =(l[t/k]?).bind fun x=>(enc x)[t%k]?
 |[],t=>by simp
 |x::l,t=>by
  rw[List.flatMap_cons];rcases ec t k with h|h
  ·rw[List.getElem?_append_left (by rw[hk];exact h),Nat.div_eq_of_lt h,Nat.mod_eq_of_lt h];rfl
  ·rw[List.getElem?_append_right (by rw[hk];exact h),hk,rj hk h0 l];have e1:t/k=(t-k)/k+1:=by rw[Nat.div_eq t k,if_pos ⟨h0,h⟩]
   have e2:(t-k)%k=t%k:=by rw[Nat.mod_eq t k,if_pos ⟨h0,h⟩]
   rw[e1,e2,List.getElem?_cons_succ]
theorem nD (hk:∀x,(enc x).length=k):∀l:List α,(l.flatMap enc).length=l.length*k
 |[]=>by simp
 |x::l=>by rw[List.flatMap_cons,bP,hk,nD hk l,cq,Nat.add_mul];omega
theorem tM (hk:∀x,(enc x).length=k) (h0:0<k) (d:Array α) {t:Nat} (ht:t<d.size*k):(d.toList.flatMap enc)[t]? =some (flatK enc k d)[t]! :=by
 have h1:t/k<d.size:=Nat.div_lt_of_lt_mul (by rw[Nat.mul_comm];exact ht);have h2:t%k<k:=Nat.mod_lt _ h0;rw[rj hk h0,get_flatK _ _ _ _ ht];have e:d.toList[t/k]? =some d[t/k]! :=by simp[h1]
 rw[e];simp[hk,h2]
theorem D5 {w:World} {g:Nat} {cur:Array Value} {e:TypeId} {d:Array α} (hk:∀x,(enc x).length=k) (h0:0<k) (hg:w.heap[g]? =some (.cells cur e (0,0))) (hC:cur.toList.take (d.size*k)=d.toList.flatMap enc):HoldsK enc k w g 0 d:=fun j hj=>by
 rw[size_flatK]at hj;have h1:=tM hk h0 d hj;rw[←hC,dm,if_pos hj,Array.getElem?_toList]at h1;constructor
 ·simp[World.cell?,hg,h1]
 ·simp[World.frozen?,hg]
theorem uW {w:World} {g n:Nat} {cur:Array Value} {e:TypeId} {d:Array α} {os:Array Obj} (hg:w.heap[g]? =some (.cells cur e (0,0))):(sortWorldK enc k w g 0 n d os).heap[g]? =some (.cells (putCells id 0 (flatK enc k d) cur) e (0,0)):=by
 have dA:g<w.heap.size:=aj hg
 have h1:(w.heap.modify g (onCells (putCells id 0 (flatK enc k d))))[g]? =some (.cells (putCells id 0 (flatK enc k d) cur) e (0,0)):=by
  rw[pX,if_pos rfl,hg];rfl
 show((w.heap.modify g (onCells (putCells id 0 (flatK enc k d))))++os)[g]? =_;rw[Array.getElem?_append_left (by simpa using dA)];exact h1
theorem rF {w:World} {g n:Nat} {d:Array α} {os:Array Obj}:Step allM w allM (sortWorldK enc k w g 0 n d os) (fun b=>b=g):=
 ⟨fun h=>absurd (h w.heap.size trivial) (mB _),rfl,rfl,rfl,by show _≤((w.heap.modify g _)++os).size;simp,fun _ _=>Iff.rfl,fun b hb hn=>by
  have hn: ¬b=g:=hn;show((w.heap.modify g (onCells (putCells id 0 (flatK enc k d))))++os)[b]? =_;rw[Array.getElem?_append_left (by simpa using hb),pX,if_neg (fun h=>hn h.symm)],fun _ _=>trivial⟩
theorem uY {F cur:Array Value} (h:F.size≤cur.size):(putCells id 0 F cur).toList.take F.size=F.toList:=by
 apply ki;intro j;rw[dm];by_cases hj:j<F.size
 ·rw[if_pos hj];simp[putCells,hj,Nat.lt_of_lt_of_le hj h]
 ·rw[if_neg hj,eH (by simpa using hj)]
theorem x9 (hk:∀x,(enc x).length=k) (h0:0<k) (d:Array α):(flatK enc k d).toList=d.toList.flatMap enc:=by
 apply ki;intro j;by_cases hj:j<d.size*k
 ·rw[tM hk h0 d hj];have:j<(flatK enc k d).size:=by rw[size_flatK];exact hj
  rw[Array.getElem?_toList,getElem!_pos _ j this];exact Array.getElem?_eq_getElem this
 ·rw[eH (by rw[Array.length_toList,size_flatK];omega),eH (by rw[nD hk,Array.length_toList];omega)]
end
end Go.K
namespace Go.K
open Go.Proofs
set_option maxRecDepth 10000
open Go.Proofs Go.Sort
theorem CX:∀{ts:List Fd} {C:List Value} {M:aD} {w:World},eB RT.fd M w ts C→C=ts.flatMap fun t=>[.string ⟨t.1.toArray⟩,.string ⟨t.2.toArray⟩]
 |[],C,_,_,h=>h
 |t::ts,C,_,_,⟨vs,r,h1,h2,h3⟩=>by
  obtain⟨va,vb,rfl,h4,h5⟩:=h2;rw[h1,CX h3,h4.1,h5.1];rfl
theorem zP {M:aD} {w:World}:∀{ts:List Fd},(∀t∈ts,t.1.length≤1000000∧t.2.length≤1000000)→eB RT.fd M w ts (ts.flatMap fun t=>[.string ⟨t.1.toArray⟩,.string ⟨t.2.toArray⟩])
 |[],_=>rfl
 |t::ts,h=>by
  obtain⟨h1,h2⟩:=h t (b9 ..);exact⟨_,_,rfl,⟨_,_,rfl,⟨rfl,by omega⟩,⟨rfl,by omega⟩⟩,zP fun u hu=>h u (cI _ hu)⟩
def Gz (us:List Fd):Prop:=us.Pairwise fun a b=>¬Lib.compareBytes (du b) (du a)<0
theorem uZ {base:Nat} {v:Value} {ts:List Fd} (w0:World) (ho:Own RT.fd 78 (jo v) w0 base v ts) (hT:∀t∈ts,(0:UInt8)∉t.1∧t.1.length≤1000000∧t.2.length≤1000000) (hl:ts.length≤100000000):
  Spec Tryz.prog 187 #[v,.func (.func 136) #[] #[]] w0 (fun r w=>r= .tuple #[]∧∃us:List Fd,us.Perm ts∧Gz us∧Own RT.fd 78 (jo v) w base v us∧Step allM w0 allM w (jo v)):=by
 obtain⟨⟨C,⟨hC,hr⟩,hA⟩,hm⟩:=ho;rcases hr with⟨rfl,h0⟩|⟨g,cap,cur,rfl,hb,hg,hle,hmx,hcz,Dm⟩
 ·have E3:ts=[]:=gm.1 h0;subst E3;exact(AnyF.slices_SortFunc_none Tryz.Gx none 0 _ w0).mono fun e w' ⟨h1,h2⟩=>⟨_,h1,rfl,[],.refl _,List.Pairwise.nil,eh _ _ _ _ _,by rw[h2];exact(al allM w0).bN (fun _ h=>h.elim) (fun _ _=>trivial)⟩
 ·obtain⟨d,hd⟩:∃d:Array TK,d.toList.map (·.1)=ts:=⟨(ts.attach.map fun x=>(⟨x.1,hT x.1 x.2⟩:TK)).toArray,by rw[List.toList_toArray,List.map_map];exact List.attach_map_subtype_val ts⟩;have jj:d.size=ts.length:=by rw[←hd];simp
  have hk:∀x:TK,(uV x).length=2:=fun _=>rfl
  have Nh:∀l:List TK,(l.map (·.1)).flatMap (fun t:Fd=>[Value.string ⟨t.1.toArray⟩,.string ⟨t.2.toArray⟩])=l.flatMap uV:=fun l=>by rw[List.flatMap_map];rfl
  have hH:HoldsK uV 2 w0 g 0 d:=D5 hk (by omega) hg (by
   have e2:RT.fd.n=2:=rfl;rw[e2]at Dm;rw[jj,Dm,CX hA,←hd,Nh])
  have hs:=Q1 g 0 cap d w0 hH (aj hg) (by omega);rw[jj]at hs;refine hs.mono fun r w' ⟨h1,n,os,h2⟩=>⟨h1,(d.toList.mergeSort fun x y=> !(ltOf EH) y x).map (·.1),?_,?_,?_,?_⟩
  ·rw[←hd];exact(List.mergeSort_perm _ _).map _
  ·refine dg.2 ((List.pairwise_mergeSort (fun a b c h1 h2=>?_) (fun a b=>?_) _).imp fun h=>?_)
   ·simp only[ltOf,oG,decide_eq_false_iff_not]at*
    have:=(CW fun x:TK=>du x.1).ntrans c b a (by simpa[ltOf,EH]using h2) (by simpa[ltOf,EH]using h1);simpa[ltOf,EH]using this
   ·simp only[ltOf,Bool.or_eq_true,oG,decide_eq_false_iff_not];have:=l9 (du a.1) (du b.1);unfold EH;omega
   ·rw[oG]at h;exact of_decide_eq_false h
  ·have hp:=List.mergeSort_perm d.toList fun x y=> !(ltOf EH) y x
   rw[h2];generalize (d.toList.mergeSort fun x y=> !(ltOf EH) y x)=us at hp;have Q2:(us.map (·.1)).length=ts.length:=by rw[de,hp.length_eq,Array.length_toList,jj]
   have yt:us.toArray.size*2=ts.length*2:=by rw[←Q2];simp
   have e2:RT.fd.n=2:=rfl;refine⟨⟨(us.map (·.1)).flatMap (fun t:Fd=>[Value.string ⟨t.1.toArray⟩,.string ⟨t.2.toArray⟩]),⟨?_,.inr ⟨g,cap,_,by rw[Q2],hb,uW hg,by rw[Q2];exact hle,hmx,by rw[←hcz];simp[putCells],?_⟩⟩,zP fun t ht=>?_⟩,hm⟩
   ·rw[Nh,nD hk,de,e2]
   ·rw[Nh,Q2,e2,←yt,←size_flatK uV,uY (by rw[size_flatK,yt,hcz,e2];omega),x9 hk (by omega)]
   ·obtain⟨x,_,rfl⟩:=cx.1 ht;exact x.2.2
  ·rw[h2];exact rF.bN (fun b hb=>by have hb:b=g:=hb;subst hb;rfl) (fun _ _=>trivial)
end Go.K
namespace Go.K
open Go.Proofs
set_option maxRecDepth 10000
theorem zQ {bs mb clock:Nat} {es:List MapEntry} (w0:World) (hk:CU es) (hT:∀e∈es,∀t,e.key=kv t→(0:UInt8)∉t.1∧t.1.length≤1000000∧t.2.length≤1000000) (TR:es.length≤100000000) (hlen:∀ts:List Fd,ts.Nodup→(∀t∈ts,∃e∈es,e.key=kv t)→ts.length≤100000000) (I2:w0.heap[bs]? =some (.cells #[.map (some mb)] 217 (0,0))) (hW:eE Tryz.prog 78 w0 mb es clock):
  Spec Tryz.prog 134 #[.func (.func 188) #[] [.pointer (some ⟨bs,0,none⟩)].toArray,.func (.func 136) #[] #[]] w0 (fun v w=>∃us:List Fd,us.Nodup∧(∀t,t∈us↔∃e∈es,e.key=kv t)∧Gz us∧Own RT.fd 78 (jo v) w w0.heap.size v us∧Step allM w0 allM w aw):=by
 refine aR (args:=[_,_]) (fn:=Tryz.f134) Tryz.func134 rfl (n:=12) Tryz.ntmps134 (ai (ad (ah rfl rfl (ab (ai (ad (ae rfl rfl ?_)))))));refine aJ rfl rfl U0 (x7 _ hk TR I2 hW) (fun v1 w1 hc=>?_);obtain⟨ts,kL,l2,ho,s1⟩:=hc;refine ah rfl rfl (ab (ai (ad (ae rfl rfl (ae rfl rfl ?_)))));refine aJ rfl rfl U1 (uZ _ ho (fun t ht=>by obtain⟨e,he,WK⟩:=(l2 t).1 ht;exact hT e he t WK) (hlen ts kL fun t ht=>(l2 t).1 ht)) (fun r2 w2 hc=>?_);obtain⟨rfl,us,hp,Ll,Q3,s2⟩:=hc;refine ab (ai (ad (ae rfl rfl (ah rfl rfl (ab (aI ?_))))));exact aO rfl rfl ⟨us,hp.nodup_iff.2 kL,fun t=>hp.mem_iff.trans (l2 t),Ll,Q3,s1.trans s2 (fun k hk hn=>by have:=(ho.base k hn).1;omega)⟩
theorem BM {mb:Nat} (w0:World):
  Spec Tryz.prog 135 #[.map (some mb)] w0 (fun v w=>∃bs,v= .func (.func 188) #[] [.pointer (some ⟨bs,0,none⟩)].toArray∧w.heap[bs]? =some (.cells #[.map (some mb)] 217 (0,0))∧w0.heap.size≤bs∧Step allM w0 allM w aw):=by
 refine aR (args:=[_]) (fn:=Tryz.f135) Tryz.func135 rfl (n:=4) Tryz.ntmps135 (ai (ad ?_));refine iJ allM rfl rfl (fun bs w1 py AU gs s1=>?_);change w1.heap[bs]? =some (.cells #[.map (some mb)] 217 (0,0))at gs;replace s1:=s1.all;refine ah rfl rfl (ab (ai (ad (gG (xs:=[]) (ys:=[.tmp 1]) rfl rfl rfl (ah rfl rfl (ab (aI ?_)))))));exact aO rfl rfl ⟨bs,rfl,gs,py,s1⟩
end Go.K
namespace Go.K
open Go.Proofs
set_option maxRecDepth 10000
def posOf (ts:List (Fd×Nat)) (t:Fd):List Int:=(ts.filter fun p=>decide (p.1=t)).map fun p=>(p.2:Int)
def seen (ts:List (Fd×Nat)):List Fd:=ts.foldl (fun l p=>if p.1∈l then l else l++[p.1]) []
theorem D6 (ts:List (Fd×Nat)) (t:Fd) (i:Nat):seen (ts++[(t,i)])=if t∈seen ts then seen ts else seen ts++[t]:=by unfold seen;rw[oF];rfl
theorem tN (ts:List (Fd×Nat)) (t t':Fd) (i:Nat):posOf (ts++[(t,i)]) t'=if t=t' then posOf ts t'++[(i:Int)]else posOf ts t':=by
 unfold posOf;rw[List.filter_append];by_cases h:t=t'<;>simp[h]
theorem qF (ts:List (Fd×Nat)) (t:Fd):(posOf ts t).length≤ts.length:=by
 unfold posOf;rw[de];exact List.length_filter_le _ _
abbrev iX:Value:= .slice none 0 0
structure D7 (M:aD) (w:World) (B:Nat) (ts:List (Fd×Nat)) (es:List MapEntry):Prop where
 o:∀t v,dG iX es (kv t) v→Own (RT.int .i64) 3 M w B v (posOf ts t)
 a:∀t t' v v',t≠t'→dG iX es (kv t) v→dG iX es (kv t') v'→iN v v'
 k:es.map (·.key)=(seen ts).map kv
theorem D7.aW {M M':aD} {w w':World} {B:Nat} {ts:List (Fd×Nat)} {es:List MapEntry} (h:D7 M w B ts es) (s:Step M w M' w' aw):D7 M' w' B ts es:=⟨fun t v hv=>(h.o t v hv).aW s,h.a,h.k⟩
def IJ (bt mb B:Nat) (ts:List (Fd×Nat)) (M:aD) (w:World):Prop:=w.heap[bt]? =some (.cells #[.map (some mb)] 217 (0,0))∧M bt∧M mb∧B≤bt∧B≤mb∧∃es clock,eE Tryz.prog 78 w mb es clock∧D7 M w B ts es
theorem Own.iY {α:Type} {A:RT α} {e:TypeId} {M:aD} {w:World} {base b c:Nat} {a:Array MapEntry} {v:Value} {xs:List α} (h:Own A e M w base v xs) (hb:w.heap[b]? =some (.map a c)):v.ownBlock≠some b:=fun hv=>by
 obtain⟨⟨C,h1,_⟩,_⟩:=h;rcases h1.2 with⟨h2,_⟩|⟨g,cap,cur,h2,_,h3,_⟩
 ·rw[h2]at hv;cases hv
 ·rw[h2]at hv;cases hv;rw[h3]at hb;cases hb
theorem pL {ts:List (Fd×Nat)} {es:List MapEntry} {t:Fd} (hk:es.map (·.key)=(seen ts).map kv):(∃e∈es,e.key=kv t)↔t∈seen ts:=by
 constructor
 ·rintro⟨e,he,h⟩;have:kv t∈(seen ts).map kv:=by rw[←hk,←h];exact fw he
  obtain⟨t',h1,h2⟩:=cx.1 this;rw[←qE h2];exact h1
 ·intro h;have:kv t∈es.map (·.key):=by rw[hk];exact fw h
  obtain⟨e,h1,h2⟩:=cx.1 this;exact⟨e,h1,h2⟩
theorem D8 {M:aD} {bt mb B:Nat} {ts:List (Fd×Nat)} {t:Fd} {i:Nat} (w0:World) (hM:Lt M w0) (h1:t.1.length≤900000) (h2:t.2.length≤140737488355328) (hi:i≤1000000) (E3:ts.length≤10000000) (hJ:IJ bt mb B ts M w0):
  Spec Tryz.prog 133 #[kv t,.int .i64 (i:Int),.pointer (some ⟨bt,0,none⟩)] w0 (fun v w=>∃M',Lt M' w∧IJ bt mb B (ts++[(t,i)]) M' w∧Step M w0 M' w (jE M B)):=by
 obtain⟨gb,dB,dW,hB,CY,es,clock,hW,hI⟩:=hJ;refine aR (args:=[_,_,_]) (fn:=Tryz.f133) Tryz.func133 rfl (n:=13) Tryz.ntmps133 ?_;have S:Step M w0 M w0 (jE M B):=(al _ _).bN (fun _ h=>h.elim) (fun _ h=>h.2);refine ai (ad ?_);refine Rg.ly (A:=RT.fd) rfl rfl hM (zK (by omega) h2) rfl (fun u0 w1 cA s0 _=>?_);have:=aj gb;replace dB:=(s0.mem _ this).2 dB;replace gb:=s0.aE gb;replace dW:=(s0.mem _ (aj hW.at_)).2 dW;replace hW:=hW.aW s0;replace hI:=hI.aW s0;replace hM:=s0.lt hM;have:=S.size;replace S:=S.ax s0;refine ab (ad (az jL rfl rfl rfl (by assumption) rfl ?_));refine cM (M:=M) (A:=RT.fd) cg rfl sT (by decide) rfl rfl rfl cA (aq _ _) (fun v1 uw=>?_);obtain rfl:=l5 uw;refine ae rfl rfl ?_;refine fa (A:=RT.int .i64) (hn:=by decide) (M:=M) ar I3 (by decide) rfl rfl hM (gu (by omega)) (.inr ⟨rfl,rfl⟩) (fun IM uI iF s1_3=>?_);have:=aj gb;replace dB:=(s1_3.mem _ this).2 dB;replace gb:=s1_3.aE gb;replace cA:=cA.le (by decide) s1_3.le;replace dW:=(s1_3.mem _ (aj hW.at_)).2 dW;replace hW:=hW.aW s1_3;replace hI:=hI.aW s1_3;replace hM:=s1_3.lt hM;have:=S.size;replace S:=S.ax s1_3;obtain⟨kl,Dq⟩:=Gr t (by omega) h2;refine Rg.mapEntry (M:=M) (zv:=iX) jL wC lI rfl rfl rfl Dq hW dW (fun w4 es4 cl4 v s OW hv l2 BN yP s4=>?_);have hmo:∀t v,dG iX es (kv t) v→v.ownBlock≠some mb:=fun t v h=>(hI.o t v h).iY hW.at_
 have KD:bt≠mb:=fun e=>by subst e;have:=hW.at_;rw[gb]at this;cases this
 replace hI:D7 M w4 B ts es:=⟨fun t v hv=>(hI.o t v hv).step s4 (fun b hb hk=>hmo t v hv (by have hk:b=mb:=hk;rw[←hk];exact hb)),hI.a,hI.k⟩;have Q4:=(s4.mem _ (aj hW.at_)).2 dW;replace dB:=(s4.mem _ (aj gb)).2 dB;replace gb:=s4.bB gb KD;replace iF:=iF.le s4.le;replace hM:=s4.lt hM;have hmM:∀b,b<w0.heap.size→M b→M b:=fun b hb h=>(S.mem b hb).1 h
 have hz0:=S.size;replace S:=S.trans s4 (fun k hk h=>by have h:k=mb:=h;subst h;exact⟨CY,hmM k hk dW⟩);have og:=hI.o t v hv;have sr:=qF ts t;refine bu rfl rfl rfl ?_;refine Rg.kr (M:=M) (base:=B) ar I3 rfl rfl rfl rfl og iF (aq _ _) (by simp;omega) (by simp;omega) (by have:=aj gb;omega) (fun v6 w6 wG s6 hF=>?_);have hblk:∀b,jw v b→B≤b∧M b:=fun b h=>⟨(og.base b h).1,og.mut_ b h⟩
 have I6:∀t' v',t'≠t→dG iX es (kv t') v'→iN v' v:=fun t' v' eD nZ=>hI.a t' t v' v eD nZ hv
 have I7:∀t' v',t'≠t→dG iX es (kv t') v'→Own (RT.int .i64) 3 (jQ M v6) w6 B v' (posOf ts t'):=fun t' v' eD nZ=>(hI.o t' v' nZ).step s6 (fun b hb hk=>I6 t' v' eD nZ b hb hk)
 have jj:∀t' v',dG iX es (kv t') v'→∀b,v'.ownBlock=some b→b<w4.heap.size:=fun t' v' nZ b hb=>((hI.o t' v' nZ).base b hb).2
 have GA:∀t' v',t'≠t→dG iX es (kv t') v'→iN v6 v':=fun t' v' eD nZ=>(I6 t' v' eD nZ).symm.grown hF (jj t' v' nZ)
 have WQ:v.ownBlock≠some mb:=og.iY OW.at_;have GB:=(s6.mem _ (aj OW.at_)).2 Q4;replace OW:=OW.step s6 WQ;replace dB:=(s6.mem _ (aj gb)).2 dB;replace gb:=s6.bB gb (fun h=>og.ef gb (by decide) h);replace hM:=s6.lt hM;have WR:∀b,b<w0.heap.size→M b→M b:=fun b hb h=>(S.mem b hb).1 h
 replace S:=S.trans s6 (fun k hk h=>⟨(hblk k h).1,WR k hk (hblk k h).2⟩);refine bu rfl rfl rfl ?_;have Q5:=OW.at_;refine Rg.entryStore rfl rfl rfl OW GB l2 (fun w8 es8 hW8 my Q6 s8=>?_);have VG:v6.ownBlock≠some mb:=wG.iY Q5;replace wG:=wG.step s8 (fun b hb hk=>VG (by have hk:b=mb:=hk;rw[←hk];exact hb));have Q7:∀t' v',t'≠t→dG iX es (kv t') v'→Own (RT.int .i64) 3 _ w8 B v' (posOf ts t'):=fun t' v' eD nZ=>(I7 t' v' eD nZ).step s8 (fun b hb hk=>hmo t' v' nZ (by have hk:b=mb:=hk;rw[←hk];exact hb))
 have Q8:=(s8.mem _ (aj Q5)).2 GB;refine ab ?_
 first|refine fF.nil ?_|simp+decide only[rz,jO,if_true,if_false]|skip
 replace dB:=(s8.mem _ (aj gb)).2 dB;replace gb:=s8.bB gb KD;replace hM:=s8.lt hM;replace S:=S.trans s8 (fun k hk h=>by have h:k=mb:=h;subst h;exact⟨CY,(S.mem k hk).1 GB⟩)
 have oh:∀t1 v1,dG iX es8 (kv t1) v1→(t1=t∧v1=v6)∨(t1≠t∧dG iX es (kv t1) v1):=fun t1 v1 uw=>by
  rcases(Q6 iX (kv t1) v1).1 uw with⟨h3,h4⟩|⟨h3,h4⟩
  ·exact .inl ⟨qE h3,h4⟩
  ·exact .inr ⟨fun e=>h3 (by rw[e];rfl),(BN (kv t1) v1).1 h4⟩
 refine jx rfl ⟨_,hM,⟨gb,dB,Q8,hB,CY,es8,_,hW8,⟨fun t1 v1 uw=>?_,fun t1 t2 v1 v2 eD uw yB=>?_,?_⟩⟩,S⟩
 ·rcases oh t1 v1 uw with⟨rfl,rfl⟩|⟨h3,h4⟩
  ·rw[tN,if_pos rfl];exact wG
  ·rw[tN,if_neg (fun e=>h3 e.symm)];exact Q7 t1 v1 h3 h4
 ·rcases oh t1 v1 uw with⟨rfl,rfl⟩|⟨h3,h4⟩
  ·rcases oh t2 v2 yB with⟨rfl,_⟩|⟨h5,h6⟩
   ·exact absurd rfl eD
   ·exact GA t2 v2 h5 h6
  ·rcases oh t2 v2 yB with⟨rfl,rfl⟩|⟨h5,h6⟩
   ·exact(GA t1 v1 h3 h4).symm
   ·exact hI.a t1 t2 v1 v2 eD h4 h6
 ·rw[my,D6];rcases yP with⟨h3,h4⟩|⟨h3,h4⟩
  ·rw[h3,hI.k,if_pos ((pL hI.k).1 h4)]
  ·rw[h3,hI.k,if_neg (fun h=>by obtain⟨e,he,hk⟩:=(pL hI.k).2 h;exact h4 e he hk)];simp[kv]
end Go.K
namespace Go.K
open Go.Maps (Keyed)
open Go.Lib (compareBytes)
theorem zR:∀a b:List UInt8,Op.bytesLess a b=decide (compareBytes a b<0)
 |[],[]=>by simp[Op.bytesLess,compareBytes]
 |_::_,[]=>by simp[Op.bytesLess,compareBytes]
 |[],_::_=>by simp[Op.bytesLess,compareBytes]
 |a::x,b::y=>by
  rw[Op.bytesLess,zR x y,lC];by_cases h1:a.toNat<b.toNat
  ·simp[UInt8.lt_iff_toNat_lt,h1]
  ·by_cases h2:b.toNat<a.toNat
   ·have: ¬a=b:=fun e=>by subst e;omega
    simp[UInt8.lt_iff_toNat_lt,h1,h2,this]
   ·have:a=b:=UInt8.toNat_inj.1 (by omega);simp[UInt8.lt_iff_toNat_lt,h1,h2,this]
theorem nE (a b:List UInt8):compareBytes a b<0↔a<b:=by
 have h:=zR a b;rw[Go.Proofs.bytesLess_eq]at h;exact(decide_eq_decide.1 h).symm
theorem iG (a:List UInt8): ¬a<a:=fun h=>by have:=(nE a a).2 h;rw[tK]at this;omega
theorem lD {a b c:List UInt8} (h:a<b) (h':b<c):a<c:=(nE _ _).1 (nR ((nE _ _).2 h) ((nE _ _).2 h'))
theorem kE (a b:List UInt8):a<b∨a=b∨b<a:=by
 rcases Int.lt_trichotomy (compareBytes a b) 0 with h|h|h
 ·exact .inl ((nE _ _).1 h)
 ·exact .inr (.inl (nC h))
 ·exact .inr (.inr ((nE _ _).1 (by rw[l9];omega)))
theorem iH {a b:List UInt8} (h:a<b): ¬b<a:=fun h'=>iG a (lD h h')
theorem BO {a b:List UInt8}:a≤b↔¬b<a:=Iff.rfl
section
variable {P:Program} {r:Option Nat} {n:Nat} {L:Sl} {ds:List Deferred} {w:World} {K:Kt} {ops:Array Oper} {rest:List Oper} {d:Nat} {x y:Operand} {ty:TypeId} {pos:String} {af:Array Edge}
theorem Rg.WS {t t':TypeId} {p q:List UInt8} (hx:ev L x=some (.string ⟨p.toArray⟩)) (hy:ev L y=some (.string ⟨q.toArray⟩)) (hd:Nat.blt d n=true)
  (k:Rg P r n ops rest ((d,.bool (decide (q<p)))::L) ds w K):
  Rg P r n ops ({dst:=some d,op:= .binOp .gtr t x y t',type:=ty,pos,after:=af,guard:=none}::rest) L ds w K:=
 .op (fun _ h=>by cases h) rfl rfl hd _ w (fun ρ h=>by
  have e:(!(decide (p<q)||p==q))=decide (q<p):=by
   rcases kE p q with h|h|h
   ·simp[h,iH h]
   ·subst h;simp[iG]
   ·have: ¬p=q:=fun e=>by subst e;exact iG p h
    simp[h,iH h,this]
  simp only[execOp];rw[h x _ hx,h y _ hy];simp only[binOp,Op.stringOp,iy,Go.Proofs.bytesLess_eq,e];simp[eqGuard]) k
theorem Rg.Ni {t t':TypeId} {p q:List UInt8} (hx:ev L x=some (.string ⟨p.toArray⟩)) (hy:ev L y=some (.string ⟨q.toArray⟩)) (hd:Nat.blt d n=true)
  (k:Rg P r n ops rest ((d,.bool (decide (¬p<q)))::L) ds w K):
  Rg P r n ops ({dst:=some d,op:= .binOp .geq t x y t',type:=ty,pos,after:=af,guard:=none}::rest) L ds w K:=
 .op (fun _ h=>by cases h) rfl rfl hd _ w (fun ρ h=>by
  have e:(!decide (p<q))=decide (¬p<q):=by by_cases h:p<q<;>simp[h]
  simp only[execOp];rw[h x _ hx,h y _ hy];simp only[binOp,Op.stringOp,iy,Go.Proofs.bytesLess_eq,e];simp[eqGuard]) k
theorem Rg.Nj {t t':TypeId} {p q:List UInt8} (hx:ev L x=some (.string ⟨p.toArray⟩)) (hy:ev L y=some (.string ⟨q.toArray⟩)) (hd:Nat.blt d n=true)
  (k:Rg P r n ops rest ((d,.bool (decide (¬q<p)))::L) ds w K):
  Rg P r n ops ({dst:=some d,op:= .binOp .leq t x y t',type:=ty,pos,after:=af,guard:=none}::rest) L ds w K:=
 .op (fun _ h=>by cases h) rfl rfl hd _ w (fun ρ h=>by
  have e:(decide (p<q)||p==q)=decide (¬q<p):=by
   rcases kE p q with h|h|h
   ·simp[h,iH h]
   ·subst h;simp[iG]
   ·have: ¬p=q:=fun e=>by subst e;exact iG p h
    simp[h,iH h,this]
  simp only[execOp];rw[h x _ hx,h y _ hy];simp only[binOp,Op.stringOp,iy,Go.Proofs.bytesLess_eq,e];simp[eqGuard]) k
end
abbrev ya (l:List (List UInt8)):Prop:=l.Pairwise (· < ·)
theorem D9 {ss:List (List UInt8)} (h:ss.Nodup):ya (ss.mergeSort fun x y=>decide (x≤y)):=by
 have h1:(ss.mergeSort fun x y=>decide (x≤y)).Pairwise (fun x y=>decide (x≤y)=true):=List.pairwise_mergeSort (fun a b c h1 h2=>by
  simp only[decide_eq_true_eq,BO]at h1 h2 ⊢;intro h3;rcases kE a b with h|h|h
  ·exact h2 (lD h3 h)
  ·subst h;exact h2 h3
  ·exact h1 h) (fun a b=>by
  simp only[Bool.or_eq_true,decide_eq_true_eq,BO];rcases kE a b with h|h|h
  ·exact .inl (iH h)
  ·subst h;exact .inl (iG a)
  ·exact .inr (iH h)) ss
 have h2:(ss.mergeSort fun x y=>decide (x≤y)).Nodup:=(List.mergeSort_perm ss _).nodup_iff.2 h;refine (h1.and h2).imp ?_;rintro a b ⟨h3,h4⟩;simp only[decide_eq_true_eq,BO]at h3;rcases kE a b with h|h|h
 ·exact h
 ·exact absurd h h4
 ·exact absurd h h3
theorem ya.nodup {l:List (List UInt8)} (h:ya l):l.Nodup:=h.imp fun {a b} h e=>by subst e;exact iG a h
theorem GC {α:Type} {R:α→α→Prop} (hR:∀a b,R a b→R b a→a=b) {l l':List α} (h:l.Pairwise R) (h':l'.Pairwise R) (hn:l.Nodup) (OV:l'.Nodup) (hm:∀x,x∈l↔x∈l'):l=l':=
 List.Perm.eq_of_pairwise (fun a b _ _ h1 h2=>hR a b h1 h2) h h' ((List.perm_ext_iff_of_nodup hn OV).2 hm)
theorem Nk {l l':List (List UInt8)} (h:ya l) (h':ya l') (hm:∀x,x∈l↔x∈l'):l=l':=
 GC (fun a b h1 h2=>absurd h2 (iH h1)) h h' h.nodup h'.nodup hm
abbrev sv (k:List UInt8):Value:= .string ⟨k.toArray⟩
theorem yb {a b:List UInt8} (h:sv a=sv b):a=b:=by simpa[sv]using h
def BP:Value→Option (DU×List MemPlace):=fun _=>some (.nil,[])
theorem eE.WT {P:Program} {kt:TypeId} {M:aD} {w:World} {b:Nat} {es:List MapEntry} {clock:Nat} (hk:P.underlying kt=some .string) (h:eE P kt w b es clock) (hm:M b) (hl:es.length≤maxLen) (ks:List (List UInt8)) (I8:es.map (·.key)=ks.map sv):
  ∃m:List (Lit×DU),jn P kt BP M w b m∧(strKeys (DataW.map m)).Perm ks∧m.length=ks.length:=by
 have hF:Go.WideElems.Fit P kt BP es.toArray clock:=by
  refine⟨by simpa using hl,⟨fun x hx=>h.lt x (by simpa using hx),?_,?_⟩,fun x hx=>?_⟩
  ·simpa[List.Nodup,dg]using h.born
  ·simpa[List.Nodup,dg]using h.keys
  ·obtain⟨l,hl⟩:=h.ok x (by simpa using hx);exact⟨(l,.nil),by simp[Go.WideElems.rd,hl,BP]⟩
 have hp:=Go.WideShapes.sorted_perm (es.toArray.toList.map (Go.WideElems.rg P kt BP));have hlen:(List.foldr DataW.insert [] (es.toArray.toList.map (Go.WideElems.rg P kt BP))).length=es.length:=by rw[hp.length_eq];simp
 refine⟨_,⟨hm,es.toArray,clock,h.at_,hF,by rw[hlen];simp,rfl⟩,?_,?_⟩
 ·refine (hp.map fun p=>strOf p.1).trans ?_;rw[List.map_map]
  have e:es.toArray.toList.map ((fun p=>strOf p.1)∘Go.WideElems.rg (H:=Unit) P kt BP)=ks:=by
   refine ki fun i=>?_
   have hi:=congrArg (·[i]?) I8;simp only[dZ]at hi ⊢
   cases he:es[i]? with
   |none=>
    rw[he]at hi
    cases WU:ks[i]? with
    |none=>simp[he]
    |some a=>rw[WU]at hi;cases hi
   |some e=>
    rw[he]at hi;obtain⟨l,hl⟩:=h.ok e (aN he);obtain⟨s,hs,h1⟩:=oA.1 hi.symm;obtain⟨z,hz1,hz2,_⟩:=Maps.keyOf_str hk hl;have:z=s:=yb (hz1.symm.trans (by simpa using h1.symm));subst this;simp[he,hs,Go.WideElems.rg,Go.WideElems.rd,hl,BP,hz2,strOf]
  rw[e]
 ·rw[hlen];have:=congrArg List.length I8;simpa using this
end Go.K
namespace Go.K
open Go.Lib (compareBytes)
def nF {α:Type} [DecidableEq α] (key:α→List UInt8) (t:α):List α→List α
 |[]=>[t]
 |u::l=>if key t<key u then t::u::l else if u=t then u::l else u::nF key t l
theorem nS {α:Type} [DecidableEq α] {key:α→List UInt8} {t x:α}:∀{l:List α},x∈nF key t l↔x=t∨x∈l
 |[]=>by simp[nF]
 |u::l=>by
  unfold nF
  split
  ·simp
  ·split
   ·rename_i h;subst h;simp
   ·rw[cW,nS (l:=l),cW];constructor
    ·rintro(h|h|h)
     ·exact .inr (.inl h)
     ·exact .inl h
     ·exact .inr (.inr h)
    ·rintro(h|h|h)
     ·exact .inr (.inl h)
     ·exact .inl h
     ·exact .inr (.inr h)
abbrev yc {α:Type} (key:α→List UInt8) (l:List α):Prop:=l.Pairwise fun a b=>key a<key b
theorem zS {α:Type} [DecidableEq α] {key:α→List UInt8} {t:α}:∀{l:List α},(∀u∈l,key u=key t→u=t)→yc key l→yc key (nF key t l)
 |[],_,_=>by simp[nF]
 |u::l,hi,h=>by
  have h':=eT.1 h;unfold nF
  split
  ·rename_i dA
   refine eT.2 ⟨fun x hx=>?_,h⟩;rcases cW.1 hx with rfl|hx
   ·exact dA
   ·exact lD dA (h'.1 x hx)
  ·rename_i dA
   split
   ·exact h
   ·rename_i eD
    have hut:key u<key t:=by
     rcases kE (key u) (key t)with h1|h1|h1
     ·exact h1
     ·exact absurd (hi u (b9 ..) h1) eD
     ·exact absurd h1 dA
    refine eT.2 ⟨fun x hx=>?_,zS (fun v hv=>hi v (cI _ hv)) h'.2⟩;rcases nS.1 hx with rfl|hx
    ·exact hut
    ·exact h'.1 x hx
def allBy {α:Type} [DecidableEq α] (key:α→List UInt8) (l:List α):List α:=l.foldl (fun a t=>nF key t a) []
theorem pM {α:Type} [DecidableEq α] {key:α→List UInt8} {S:α→Prop} (hS:∀a b,S a→S b→key a=key b→a=b):∀(l a:List α),(∀x∈l,S x)→(∀x∈a,S x)→yc key a→
  yc key (l.foldl (fun a t=>nF key t a) a)∧∀x,x∈l.foldl (fun a t=>nF key t a) a↔x∈a∨x∈l
 |[],a,_,_,h=>⟨h,fun x=>by simp⟩
 |t::l,a,hl,ha,h=>by
  have ht:=hl t (b9 ..)
  obtain⟨h1,h2⟩:=pM hS l (nF key t a) (fun x hx=>hl x (cI _ hx)) (fun x hx=>by
   rcases nS.1 hx with rfl|hx
   ·exact ht
   ·exact ha x hx) (zS (fun u hu e=>hS _ _ (ha u hu) ht e) h)
  refine⟨h1,fun x=>?_⟩;rw[List.foldl_cons,h2,nS,cW];constructor
  ·rintro((h|h)|h)
   ·exact .inr (.inl h)
   ·exact .inl h
   ·exact .inr (.inr h)
  ·rintro(h|h|h)
   ·exact .inl (.inr h)
   ·exact .inl (.inl h)
   ·exact .inr h
theorem yc.nodup {α:Type} {key:α→List UInt8} {l:List α} (h:yc key l):l.Nodup:=h.imp fun {a b} h e=>by subst e;exact iG _ h
abbrev H0 (t:Fd):Prop:=(0:UInt8)∉t.1
theorem tO {a b:Fd} (ha:H0 a) (hb:H0 b) (h:du a=du b):a=b:=by
 obtain⟨h1,h2⟩:=tL ha hb h;exact Prod.ext h1 h2
def cD (tl:List (Fd×Nat)):List Fd:=allBy du (tl.map (·.1))
theorem pN {tl:List (Fd×Nat)} (hz:∀p∈tl,H0 p.1):yc du (cD tl):=
 (pM (S:=H0) (fun _ _=>tO) _ [] (fun x hx=>by obtain⟨p,hp,rfl⟩:=cx.1 hx;exact hz p hp) (fun x h=>by cases h) List.Pairwise.nil).1
theorem iZ {tl:List (Fd×Nat)} (hz:∀p∈tl,H0 p.1) {t:Fd}:t∈cD tl↔t∈tl.map (·.1):=by
 have:=(pM (S:=H0) (key:=du) (fun _ _=>tO) (tl.map (·.1)) [] (fun x hx=>by obtain⟨p,hp,rfl⟩:=cx.1 hx;exact hz p hp) (fun x h=>by cases h) List.Pairwise.nil).2 t;simpa[cD,allBy]using this
theorem CZ (t:Fd):∀(ts:List (Fd×Nat)) (l:List Fd),t∈ts.foldl (fun l p=>if p.1∈l then l else l++[p.1]) l↔t∈l∨t∈ts.map (·.1)
 |[],l=>by simp
 |p::ts,l=>by
  rw[List.foldl_cons,CZ t ts,eL,cW]
  split
  ·rename_i h
   constructor
   ·rintro(h1|h1)
    ·exact .inl h1
    ·exact .inr (.inr h1)
   ·rintro(h1|h1|h1)
    ·exact .inl h1
    ·exact .inl (by rw[h1];exact h)
    ·exact .inr h1
  ·rw[dC,cC];constructor
   ·rintro((h1|h1)|h1)
    ·exact .inl h1
    ·exact .inr (.inl h1)
    ·exact .inr (.inr h1)
   ·rintro(h1|h1|h1)
    ·exact .inl (.inl h1)
    ·exact .inl (.inr h1)
    ·exact .inr h1
theorem pO {tl:List (Fd×Nat)} {t:Fd}:t∈seen tl↔t∈tl.map (·.1):=by unfold seen;rw[CZ];simp
theorem zT {tl:List (Fd×Nat)} {us:List Fd} (hz:∀p∈tl,H0 p.1) (kL:us.Nodup) (l2:∀t,t∈us↔t∈seen tl) (Ll:Gz us):us=cD tl:=by
 have hm:∀t,t∈us↔t∈cD tl:=fun t=>by rw[l2,pO,iZ hz]
 have kx:∀t∈cD tl,H0 t:=fun t ht=>by obtain⟨p,hp,rfl⟩:=cx.1 ((iZ hz).1 ht);exact hz p hp
 refine List.Perm.eq_of_pairwise (le:=fun a b=>¬compareBytes (du b) (du a)<0) (fun a b ha hb h1 h2=>?_) Ll ((pN hz).imp fun {a b} h h'=>iH h ((nE _ _).1 h')) ((List.perm_ext_iff_of_nodup kL (pN hz).nodup).2 hm);rw[nE]at h1 h2;rcases kE (du a) (du b)with h|h|h
 ·exact absurd h h2
 ·exact tO (kx a ((hm a).1 ha)) (kx b hb) h
 ·exact absurd h h1
theorem pP (a b:List (Fd×Nat)) (t:Fd):posOf (a++b) t=posOf a t++posOf b t:=by simp[posOf]
theorem GD {tl:List (Fd×Nat)} {t:Fd} (h:t∈tl.map (·.1)):posOf tl t≠[]:=by
 obtain⟨p,hp,rfl⟩:=cx.1 h;intro e;have:p∈tl.filter fun q=>decide (q.1=p.1):=rT.2 ⟨hp,by simp⟩
 rw[List.map_eq_nil_iff.1 e]at this;cases this
theorem Ea {tl:List (Fd×Nat)} {t:Fd} (h:t∉tl.map (·.1)):posOf tl t=[]:=by
 unfold posOf;rw[List.filter_eq_nil_iff.2 fun p hp=>by simp;intro e;exact h (cx.2 ⟨p,hp,e⟩)];rfl
theorem zU (x:Fd) (t:Fd):(posOf (gF x) t).Sublist ((List.range' 0 (words x.2).length).map fun(i:Nat)=>(i:Int)):=by
 have e:(gF x).map (fun p=>(p.2:Int))=(List.range' 0 (words x.2).length).map fun(i:Nat)=>(i:Int):=by
  rw[←List.zipIdx_map_snd 0 (words x.2),List.map_map];unfold gF;rw[List.map_map];rfl
 rw[←e];exact List.filter_sublist.map _
theorem Eb (x:Fd) (t:Fd):(posOf (gF x) t).Pairwise (· < ·)∧∀i∈posOf (gF x) t,0≤i∧i<(words x.2).length:=by
 refine⟨List.Pairwise.sublist (zU x t) (dg.2 ((List.pairwise_lt_range' (s:=0) (n:=(words x.2).length)).imp fun h=>by omega)),fun i hi=>?_⟩;have:=(zU x t).subset hi;obtain⟨k,hk,rfl⟩:=cx.1 this;have:=List.mem_range'_1.1 hk;omega
theorem wH {x:Fd} {p:Fd×Nat} (h:p∈gF x):p.1.1=x.1∧p.1.2∈words x.2:=by
 obtain⟨q,hq,rfl⟩:=cx.1 h;have:=List.mem_zipIdx hq;exact⟨rfl,by simp only;rw[this.2.2];exact List.getElem_mem _⟩
theorem wI {fs:List Fd} {p:Fd×Nat} (h:p∈ca fs):∃x∈fs,p.1.1=x.1∧p.1.2∈words x.2:=by
 obtain⟨x,hx,hp⟩:=List.mem_flatMap.1 h;exact⟨x,hx,wH hp⟩
theorem tP {x t:Fd} (h:x.1≠t.1):posOf (gF x) t=[]:=Ea fun hm=>by
 obtain⟨p,hp,rfl⟩:=cx.1 hm;exact h (wH hp).1.symm
theorem wJ {t:Fd}:∀{fs:List Fd},(∀x∈fs,x.1≠t.1)→posOf (ca fs) t=[]
 |[],_=>rfl
 |x::fs,h=>by
  show posOf (gF x++ca fs) t=[];rw[pP,tP (h x (b9 ..)),wJ fun y hy=>h y (cI _ hy)];rfl
theorem zV {t:Fd}:∀{fs:List Fd},(fs.map (·.1)).Nodup→posOf (ca fs) t=[]∨∃x∈fs,posOf (ca fs) t=posOf (gF x) t
 |[],_=> .inl rfl
 |x::fs,h=>by
  have h':=rV.1 h;have e:posOf (ca (x::fs)) t=posOf (gF x) t++posOf (ca fs) t:=by show posOf (gF x++ca fs) t=_;rw[pP]
  by_cases hx:x.1=t.1
  ·refine .inr ⟨x,b9 ..,?_⟩;rw[e,wJ fun y hy e=>h'.1 (by have h9:y.1∈fs.map (·.1):=fw hy;rw[e,←hx]at h9;exact h9),List.append_nil]
  ·rw[e,tP hx,rU];rcases zV (t:=t) h'.2 with h1|⟨y,hy,h1⟩
   ·exact .inl h1
   ·exact .inr ⟨y,cI _ hy,h1⟩
theorem zW:∀{l:List Int} {last:Int},(∀x∈l,last<x)→l.Pairwise (· < ·)→eI last l=true
 |[],_,_,_=>rfl
 |x::l,last,h1,h2=>by
  have xn:=eT.1 h2;simp only[eI,bD,decide_eq_true_eq];exact⟨h1 x (b9 ..),zW xn.1 xn.2⟩
structure ja (d:Dc):Prop where
 names:∀f∈d.2,eX f.1=true
 once:(d.2.map (·.1)).Nodup
 toks:∀f∈d.2,j8 0 (words f.2)=0
 many:(ca d.2).length≤500
 few:d.2.length≤8
theorem wK:∀{fs sn:List Fd} {n:Nat},uO sn fs n=0→(∀f∈fs,eX f.1=true∧j8 0 (words f.2)=0∧∀g∈sn,g.1≠f.1)∧(fs.map (·.1)).Nodup∧n+(ca fs).length≤500
 |[],sn,n,h=>by
  refine⟨(fun f hf=>by cases hf),List.nodup_nil,?_⟩;simp only[uO]at h
  split at h
  ·cases h
  ·simp[ca];omega
 |f::fs,sn,n,h=>by
  simp only[uO]at h
  split at h
  ·cases h
  ·rename_i h1
   split at h
   ·cases h
   ·rename_i h2
    split at h
    ·exact absurd h (by assumption)
    ·rename_i h3
     obtain⟨h4,h5,h6⟩:=wK h;have h7:∀g∈sn,g.1≠f.1:=fun g hg e=>h2 (p8.2 ⟨g,hg,by simp[e]⟩)
     refine⟨fun x hx=>?_,rV.2 ⟨fun hm=>?_,h5⟩,?_⟩
     ·rcases cW.1 hx with rfl|hx
      ·exact⟨by simpa using h1,by simpa using h3,h7⟩
      ·obtain⟨a,b,c⟩:=h4 x hx;exact⟨a,b,fun g hg=>c g (kJ _ hg)⟩
     ·obtain⟨y,hy,e⟩:=cx.1 hm;exact(h4 y hy).2.2 f (List.mem_append_right _ (cC.2 rfl)) e.symm
     ·have:(ca (f::fs)).length=(gF f).length+(ca fs).length:=by show(gF f++ca fs).length=_;rw[bP]
      rw[this,lB];omega
theorem C0 {d:Dc} (h:lz d=0):ja d:=by
 unfold lz at h
 split at h
 ·cases h
 ·obtain⟨h1,h2,h3⟩:=wK h;exact⟨fun f hf=>(h1 f hf).1,h2,fun f hf=>(h1 f hf).2.1,by omega,by omega⟩
theorem wL:∀{ws:List (List UInt8)} {i:Nat},j8 i ws=0→∀x∈ws,x.length≤30
 |[],_,_,x,hx=>by cases hx
 |a::ws,i,h,x,hx=>by
  simp only[j8]at h
  split at h
  ·cases h
  ·split at h
   ·cases h
   ·rcases cW.1 hx with rfl|hx
    ·omega
    ·exact wL h x hx
theorem GF {s:List UInt8} (h:eX s=true):(0:UInt8)∉s:=fun h0=>by
 simp only[eX,bD,dR]at h;have:=h.2 0 h0
 revert this;decide
theorem ja.Ja {d:Dc} (h:ja d):∀p∈ca d.2,H0 p.1:=fun p hp=>by
 obtain⟨x,hx,h1,_⟩:=wI hp;show(0:UInt8)∉p.1.1;rw[h1];exact GF (h.names x hx)
theorem ja.small {d:Dc} (h:ja d):∀p∈ca d.2,p.1.1.length≤12∧p.1.2.length≤30:=fun p hp=>by
 obtain⟨x,hx,h1,h2⟩:=wI hp;exact⟨by rw[h1];exact zz (h.names x hx),wL (h.toks x hx) _ h2⟩
theorem ja.pos {d:Dc} (h:ja d) (t:Fd):(posOf (ca d.2) t).Pairwise (· < ·)∧(∀i∈posOf (ca d.2) t,0≤i∧i<500)∧(posOf (ca d.2) t).length≤500:=by
 have hl:=qF (ca d.2) t;have hm:=h.many;rcases zV (t:=t) h.once with h1|⟨x,hx,h1⟩
 ·rw[h1];exact⟨List.Pairwise.nil,(fun i hi=>by cases hi),by simp⟩
 ·obtain⟨h2,h3⟩:=Eb x t
  have yI:(words x.2).length≤500:=by
   have:(gF x).length≤(ca d.2).length:=by
    obtain⟨i,hi⟩:=bR.1 hx;have:=oY hi
    have h5:(ca (d.2.take (i+1))).length≤(ca d.2).length:=by
     have:ca d.2=ca (d.2.take (i+1))++ca (d.2.drop (i+1)):=by unfold ca;rw[←List.flatMap_append,List.take_append_drop]
     rw[this,bP];omega
    rw[this,bP]at h5;omega
   rw[lB]at this;omega
  rw[h1]at hl ⊢;exact⟨h2,fun i hi=>⟨(h3 i hi).1,by have:=(h3 i hi).2;omega⟩,by omega⟩
theorem ja.eI {d:Dc} (h:ja d) (t:Fd):lS (posOf (ca d.2) t)=true:=by
 obtain⟨h1,h2,_⟩:=h.pos t;exact lT.2 ⟨zW (fun x hx=>by have:=(h2 x hx).1;omega) h1,fun x hx=>by have:=(h2 x hx).2;omega⟩
abbrev pQ (e:En):List (Fd×Nat):=ca e.1.2
def EI (i:Nat) (tl:List (Fd×Nat)) (k:List UInt8):List Po:=((cD tl).filter fun t=>decide (du t=k)).map fun t=>((i:Int),posOf tl t)
def Ec (k:List UInt8):Nat→List En→List Po
 |_,[]=>[]
 |i,e::L=>EI i (pQ e) k++Ec k (i+1) L
def pk (L:List En) (k:List UInt8):List Po:=Ec k 0 L
theorem zX (k:List UInt8) (e:En):∀(L:List En) (i:Nat),Ec k i (L++[e])=Ec k i L++EI (i+L.length) (pQ e) k
 |[],i=>by simp[Ec]
 |x::L,i=>by
  simp only[List.cons_append,Ec,zX k e L (i+1),List.append_assoc,cq];rw[show i+1+L.length=i+(L.length+1) by omega]
theorem Jb (L:List En) (e:En) (k:List UInt8):pk (L++[e]) k=pk L k++EI L.length (pQ e) k:=by
 unfold pk;rw[zX];simp
def ik (L:List En):List (List UInt8):=L.flatMap fun e=>(cD (pQ e)).map du
theorem BQ (L:List En) (e:En):ik (L++[e])=ik L++(cD (pQ e)).map du:=by simp[ik]
def keysOf (L:List En):List (List UInt8):=allBy id (ik L)
theorem pR (L:List En):ya (keysOf L):=(pM (key:=id) (S:=fun _=>True) (fun a b _ _ h=>h) _ [] (fun _ _=>trivial) (fun _ _=>trivial) List.Pairwise.nil).1
theorem lE {L:List En} {k:List UInt8}:k∈keysOf L↔k∈ik L:=by
 have:=(pM (key:=id) (S:=fun _=>True) (fun a b _ _ h=>h) (ik L) [] (fun _ _=>trivial) (fun _ _=>trivial) List.Pairwise.nil).2 k;simpa[keysOf,allBy]using this
theorem filter_one {α:Type} {key:α→List UInt8} {l:List α} (h:yc key l) (k:List UInt8):l.filter (fun t=>decide (key t=k))=[]∨∃t∈l,key t=k∧l.filter (fun t=>decide (key t=k))=[t]:=by
 have h1:yc key (l.filter fun t=>decide (key t=k)):=List.Pairwise.sublist List.filter_sublist h;have h2:∀x∈l.filter (fun t=>decide (key t=k)),x∈l∧key x=k:=fun x hx=>by simpa using rT.1 hx
 revert h1 h2
 generalize l.filter (fun t=>decide (key t=k))=m;intro h1 h2
 match m,h1,h2 with
 |[],_,_=>exact .inl rfl
 |[t],_,h2=>exact .inr ⟨t,(h2 t (b9 ..)).1,(h2 t (b9 ..)).2,rfl⟩
 |t::u::m,h1,h2=>
  have:=(eT.1 h1).1 u (b9 ..);rw[(h2 t (b9 ..)).2,(h2 u (by simp)).2]at this;exact absurd this (iG k)
theorem C1 {d:Dc} (h:ja d) (i:Nat) (k:List UInt8):EI i (ca d.2) k=[]∨∃t∈cD (ca d.2),du t=k∧EI i (ca d.2) k=[((i:Int),posOf (ca d.2) t)]:=by
 rcases filter_one (pN h.Ja) k with h1|⟨t,ht,hk,h1⟩
 ·exact .inl (by unfold EI;rw[h1];rfl)
 ·exact .inr ⟨t,ht,hk,by unfold EI;rw[h1];rfl⟩
theorem Nl {tl:List (Fd×Nat)} {i:Nat} {t:Fd} (h:t∈cD tl):EI i tl (du t)≠[]:=fun e=>by
 have:t∈(cD tl).filter fun u=>decide (du u=du t):=rT.2 ⟨h,by simp⟩
 rw[List.map_eq_nil_iff.1 e]at this;cases this
theorem yd (k:List UInt8):∀(L:List En) (i:Nat) (last:Int),(∀e∈L,ja e.1)→last<i→i+L.length≤2147483648→dY last (Ec k i L)=true
 |[],_,_,_,_,_=>rfl
 |e::L,i,last,hF,h1,h2=>by
  have hf:=hF e (b9 ..);have hr:=fun last h=>yd k L (i+1) last (fun x hx=>hF x (cI _ hx)) h (by simp at h2;omega)
  simp only[Ec];rcases C1 hf i k with h3|⟨t,ht,hk,h3⟩
  ·rw[show EI i (pQ e) k=[]from h3];exact hr last (by omega)
  ·rw[show EI i (pQ e) k=_ from h3]
   have eD:(posOf (ca e.1.2) t).isEmpty=false:=by
    have:=GD ((iZ hf.Ja).1 ht)
    cases h:posOf (ca e.1.2) t with
    |nil=>exact absurd h this
    |cons a b=>rfl
   simp only[List.cons_append,rU,dY,eD,hf.eI t,hr i (by omega),ix,Bool.not_false,bD,decide_eq_true_eq];simp at h2;omega
theorem tQ (k:List UInt8):∀(L:List En) (i:Nat),(∀e∈L,ja e.1)→(Ec k i L).length≤L.length∧∀p∈Ec k i L,(i:Int)≤p.1∧p.1<i+L.length∧p.2.length≤500
 |[],_,_=>⟨aZ _,fun p h=>by cases h⟩
 |e::L,i,hF=>by
  have hf:=hF e (b9 ..);obtain⟨h1,h2⟩:=tQ k L (i+1) (fun x hx=>hF x (cI _ hx));simp only[Ec,cq];rcases C1 hf i k with h3|⟨t,ht,hk,h3⟩
  ·rw[show EI i (pQ e) k=[]from h3];exact⟨by simpa using Nat.le_succ_of_le h1,fun p hp=>by have:=h2 p (by simpa using hp);exact⟨by omega,by omega,this.2.2⟩⟩
  ·rw[show EI i (pQ e) k=_ from h3];refine⟨by simp;omega,fun p hp=>?_⟩;rcases cW.1 hp with rfl|hp
   ·exact⟨Int.le_refl _,by simp only;omega,(hf.pos t).2.2⟩
   ·have:=h2 p (by simpa using hp);exact⟨by omega,by omega,this.2.2⟩
theorem wM:∀(l:List Po) (last:Int) (m:Nat),-1≤last→dY last l=true→(∀p∈l,p.2.length≤m)→m≤1000000→(dz last l).length≤(18+9*m)*l.length∧gA l≤m*l.length
 |[],_,_,_,_,_,_=>⟨by simp[dz],by simp[gA]⟩
 |(d,ps)::l,last,m,h0,hm,hs,hmm=>by
  simp only[dY,bD,decide_eq_true_eq]at hm;obtain⟨⟨⟨⟨h1,h2⟩,h3⟩,h4⟩,h5⟩:=hm;obtain⟨h6,h7⟩:=lT.1 h4;have iK:=hs _ (b9 ..);simp only at iK;obtain⟨i1,i2⟩:=wM l d m (by omega) h5 (fun p hp=>hs p (cI _ hp)) hmm;have a1:=sG ps (-1) (by omega) (fun x hx=>by have:=h7 x hx;omega) h6;have a3:=jl (n:=(d-last-1).toNat) (by omega);have a4:=jl (n:=ps.length) (by omega);have e1:9*ps.length≤9*m:=by omega
  constructor
  ·simp only[dz,dI,bP,cq,Nat.mul_add,Nat.mul_one];omega
  ·simp only[gA,eL,List.sum_cons,cq]at i2 ⊢;rw[Int.natCast_add,Int.mul_add];omega
theorem GG {k:List UInt8}:∀{L:List En} (i:Nat),k∈ik L→Ec k i L≠[]
 |[],_,h=>by cases h
 |e::L,i,h=>by
  simp only[Ec];intro hn;obtain⟨h1,h2⟩:=List.append_eq_nil_iff.1 hn;have h:k∈(cD (pQ e)).map du++ik L:=h;rcases dC.1 h with h|h
  ·obtain⟨t,ht,rfl⟩:=cx.1 h;exact Nl ht h1
  ·exact GG (i+1) h h2
end Go.K
namespace Go.K
def RT.ptr {α:Type} (A:RT α) (hn:0<A.n:=by decide):RT α where
 n:=1
 agg:=false
 R:=fun M w x vs=>∃b o us,vs=[.pointer (some ⟨b,o,none⟩)]∧¬M b∧A.R M w x us∧w.rangeAt b o us
 len:=by rintro _ _ x vs ⟨b,o,us,rfl,_⟩;rfl
 one:=by rintro _ _ x vs ⟨b,o,us,rfl,_⟩ v hv;simp at hv;subst hv;rfl
 le:=by
  rintro M w M' w' x vs hl ⟨b,o,us,h1,h2,h3,h4⟩;have hp:0<us.length:=by rw[A.len h3];exact hn
  have hc:=h4 0 (us[0]'hp) (aK hp);exact⟨b,o,us,h1,(hl b (World.block_lt_of_cell? w _ hc) h2).1,A.le hl h3,oH hl h2 h4⟩
theorem C2 {α:Type} {A:RT α} {hn:0<A.n} {M:aD} {w:World} {x:α} {v:Value}:(A.ptr hn).V M w x v↔cf A M w v x:=
 ⟨fun⟨vs,⟨b,o,us,h1,h2,h3,h4⟩,h5⟩=>⟨b,o,us,by subst h1;exact h5,h2,h3,h4⟩,fun⟨b,o,us,h1,h2,h3,h4⟩=>⟨[v],⟨b,o,us,by rw[h1],h2,h3,h4⟩,rfl⟩⟩
abbrev Di:=List (List UInt8)×List Li
abbrev Se:=List Int×List Int×Di
abbrev RT.di:RT Di:=RT.pair (RT.str.sl) (((RT.li).ptr).sl)
abbrev RT.se:RT Se:=RT.pair ((RT.int .i64).sl) (RT.pair ((RT.int .i64).sl) ((RT.di).ptr))
theorem TS:Part RT.di (RT.str.sl) (fun p=>p.1) 0:=kj _ _
theorem di1:Part RT.di (((RT.li).ptr).sl) (fun p=>p.2) 1:=fR _ _
theorem se0:Part RT.se ((RT.int .i64).sl) (fun p=>p.1) 0:=kj _ _
theorem se1:Part RT.se ((RT.int .i64).sl) (fun p=>p.2.1) 1:=(fR ((RT.int .i64).sl) (RT.pair ((RT.int .i64).sl) ((RT.di).ptr))).trans (kj _ _)
theorem se2:Part RT.se ((RT.di).ptr) (fun p=>p.2.2) 2:=(fR ((RT.int .i64).sl) (RT.pair ((RT.int .i64).sl) ((RT.di).ptr))).trans (fR ((RT.int .i64).sl) ((RT.di).ptr))
abbrev Pa:=List Int×List Int×List (List UInt8)×List (List Po)
abbrev RT.pa:RT Pa:=RT.pair ((RT.int .i64).sl) (RT.pair ((RT.int .i64).sl) (RT.pair (RT.str.sl) (((RT.po).sl).sl)))
theorem pa0:Part RT.pa ((RT.int .i64).sl) (fun p=>p.1) 0:=kj _ _
theorem WV:Part RT.pa ((RT.int .i64).sl) (fun p=>p.2.1) 1:=(fR ((RT.int .i64).sl) (RT.pair ((RT.int .i64).sl) (RT.pair (RT.str.sl) (((RT.po).sl).sl)))).trans (kj _ _)
theorem pa2:Part RT.pa (RT.str.sl) (fun p=>p.2.2.1) 2:=((fR ((RT.int .i64).sl) (RT.pair ((RT.int .i64).sl) (RT.pair (RT.str.sl) (((RT.po).sl).sl)))).trans (fR ((RT.int .i64).sl) (RT.pair (RT.str.sl) (((RT.po).sl).sl)))).trans (kj _ _)
theorem pa3:Part RT.pa (((RT.po).sl).sl) (fun p=>p.2.2.2) 3:=((fR ((RT.int .i64).sl) (RT.pair ((RT.int .i64).sl) (RT.pair (RT.str.sl) (((RT.po).sl).sl)))).trans (fR ((RT.int .i64).sl) (RT.pair (RT.str.sl) (((RT.po).sl).sl)))).trans (fR _ _)
theorem WW {M:aD} {w:World} {x:Se} {a b c:Value} (h0:((RT.int .i64).sl).V M w x.1 a) (h1:((RT.int .i64).sl).V M w x.2.1 b) (h2:cf RT.di M w c x.2.2):RT.se.V M w x (.agg [a,b,c].toArray):=
 ⟨[a,b,c],⟨[a],[b,c],rfl,j1 h0 rfl rfl,[b],[c],rfl,j1 h1 rfl rfl,j1 (C2.2 h2) rfl rfl⟩,rfl⟩
theorem WX {M:aD} {w:World} {x:Pa} {a b c d:Value} (h0:((RT.int .i64).sl).V M w x.1 a) (h1:((RT.int .i64).sl).V M w x.2.1 b) (h2:(RT.str.sl).V M w x.2.2.1 c) (h3:(((RT.po).sl).sl).V M w x.2.2.2 d):RT.pa.V M w x (.agg [a,b,c,d].toArray):=
 ⟨[a,b,c,d],⟨[a],[b,c,d],rfl,j1 h0 rfl rfl,[b],[c,d],rfl,j1 h1 rfl rfl,[c],[d],rfl,j1 h2 rfl rfl,j1 h3 rfl rfl⟩,rfl⟩
theorem BR {α:Type} {A:RT α} (hg:A.agg=true) {M:aD} {w:World} {x:α} {vs:List Value} (h:A.V M w x (.agg vs.toArray)):∀u∈vs,u.oneCell'=true:=by
 obtain⟨us,h1,h2⟩:=h
 have:vs=us:=by
  unfold RT.val at h2;rw[if_pos hg]at h2;injection h2 with h2
  simpa using congrArg Array.toList h2
 subst this;exact A.one h1
theorem eB.free {α:Type} {A:RT α} (hA:∀M w M' w' x vs,A.R M w x vs→A.R M' w' x vs) {M M':aD} {w w':World}:∀{xs:List α} {C:List Value},eB A M w xs C→eB A M' w' xs C
 |[],_,h=>h
 |x::xs,C,h=>by
  obtain⟨vs,r,h1,h2,h3⟩:=h;exact⟨vs,r,h1,hA _ _ _ _ _ _ h2,eB.free hA h3⟩
theorem Own.tell {α:Type} {A:RT α} {hn:0<A.n} (hA:∀M w M' w' x vs,A.R M w x vs→A.R M' w' x vs) {e:TypeId} {M M0:aD} {w:World} {base:Nat} {v:Value} {xs:List α} (h:Own A e M w base v xs) (hb:∀b,v.ownBlock=some b→¬M0 b) (hlen:xs.length≤140737488355328):(A.sl hn).V M0 w xs v:=by
 obtain⟨⟨C,hr,ha⟩,hm⟩:=h;have h':Own A e (fun b=>v.ownBlock=some b∨M0 b) w base v xs:=⟨⟨C,hr,eB.free hA ha⟩,fun b hb=> .inl hb⟩;exact h'.sl (fun b _ hn=>⟨fun h=>hn (.inr h),rfl⟩) hb hlen
end Go.K
namespace Go.K
open Go.Maps (Keyed)
section
variable {P:Program} {r:Option Nat} {n:Nat} {L:Sl} {ds:List Deferred} {w:World} {K:Kt} {ops:Array Oper} {rest:List Oper} {d:Nat} {x y z:Operand} {ty:TypeId} {pos:String} {af:Array Edge}
variable {kt:TypeId} {M:aD} {b clock:Nat} {es:List MapEntry}
theorem eE.Nn (h:eE P kt w b es clock) {i s:Nat} {key v0 val:Value} (hi:es[i]? =some ⟨key,v0,s⟩) {w':World} (hw:w'.heap[b]? =some (.map (es.set i ⟨key,val,s⟩).toArray clock)):
  eE P kt w' b (es.set i ⟨key,val,s⟩) clock∧(es.set i ⟨key,val,s⟩).map (·.key)=es.map (·.key)∧∀zv gE v',dG zv (es.set i ⟨key,val,s⟩) gE v'↔(gE=key∧v'=val)∨(gE≠key∧dG zv es gE v'):=by
 have mQ:=(au.1 hi).1;have l2:(⟨key,v0,s⟩:MapEntry)∈es:=aN hi;obtain⟨mv,qD⟩:∃mv,mv=es.set i ⟨key,val,s⟩:=⟨_,rfl⟩;rw[←qD]at hw ⊢
 have ga:∀j e',mv[j]? =some e'→(j=i∧e'=⟨key,val,s⟩)∨(j≠i∧es[j]? =some e'):=fun j e' hj=>by
  rw[qD,dJ]at hj
  split at hj
  ·rename_i gy
   left;exact⟨gy.symm,by simpa[mQ]using hj.symm⟩
  ·rename_i gy
   exact .inr ⟨fun e=>gy e.symm,hj⟩
 have my:mv.map (·.key)=es.map (·.key):=by
  rw[qD,List.map_set];apply ki;intro j;rw[dJ]
  split
  ·rename_i gy
   subst gy;have e:=(au.1 hi).2;simp[mQ,e]
  ·rfl
 have Gm:mv.map (·.born)=es.map (·.born):=by
  rw[qD,List.map_set];apply ki;intro j;rw[dJ]
  split
  ·rename_i gy
   subst gy;have e:=(au.1 hi).2;simp[mQ,e]
  ·rfl
 have eo:∀e'∈mv,(e'=⟨key,val,s⟩)∨(e'∈es∧e'.key≠key):=fun e' nB=>by
  obtain⟨j,hj⟩:=bR.1 nB;rcases ga j e' hj with⟨_,e⟩|⟨eD,qj⟩
  ·exact .inl e
  ·refine .inr ⟨aN qj,fun e=>eD ?_⟩;rcases kh j i with h1|h1|h1
   ·exact absurd e (fP h.keys qj hi h1)
   ·exact h1
   ·exact absurd e.symm (fP h.keys hi qj h1)
 have Gn:(⟨key,val,s⟩:MapEntry)∈mv:=aN (i:=i) (by rw[qD,dJ];simp[mQ])
 have hold:∀e'∈es,e'.key≠key→e'∈mv:=fun e' nB eD=>by
  obtain⟨j,hj⟩:=bR.1 nB;refine aN (i:=j) ?_;rw[qD,dJ,if_neg]
  ·exact hj
  ·rintro rfl;rw[hi]at hj;cases hj;exact eD rfl
 refine⟨⟨hw,?_,fun e' nB=>?_,?_,fun e' nB=>?_⟩,my,fun zv gE v'=>?_⟩
 ·have:=dg.2 h.born;rw[←Gm]at this;exact dg.1 this
 ·rcases eo e' nB with e|⟨h1,_⟩
  ·rw[e];exact(h.lt _ l2:s<clock)
  ·exact h.lt _ h1
 ·have:=dg.2 h.keys;rw[←my]at this;exact dg.1 this
 ·rcases eo e' nB with e|⟨h1,_⟩
  ·rw[e];exact(h.ok _ l2:∃l,keyOf P kt key=some l)
  ·exact h.ok _ h1
 ·constructor
  ·rintro(⟨e',nB,hk,hv⟩|⟨h1,h2⟩)
   ·rcases eo e' nB with e|⟨h3,h4⟩
    ·subst e;exact .inl ⟨hk.symm,hv⟩
    ·exact .inr ⟨by rw[←hk];exact h4,.inl ⟨e',h3,hk,hv⟩⟩
   ·have eD:gE≠key:=fun e=>h1 _ Gn e.symm
    exact .inr ⟨eD,.inr ⟨fun e' nB=>fun e=>by
     by_cases h5:e'.key=key
     ·exact eD (e.symm.trans h5)
     ·exact h1 e' (hold e' nB h5) e,h2⟩⟩
  ·rintro(⟨rfl,rfl⟩|⟨eD,⟨e',nB,hk,hv⟩|⟨h1,h2⟩⟩)
   ·exact .inl ⟨_,Gn,rfl,rfl⟩
   ·exact .inl ⟨e',hold e' nB (by rw[hk];exact eD),hk,hv⟩
   ·exact .inr ⟨fun e' nB=>by
     rcases eo e' nB with e|⟨h3,_⟩
     ·rw[e];exact fun e=>eD e.symm
     ·exact h1 e' h3,h2⟩
theorem dG.put {key val:Value} {s:Nat} (hn:∀e∈es,e.key≠key) (zv gE v':Value):dG zv (es++[⟨key,val,s⟩]) gE v'↔(gE=key∧v'=val)∨(gE≠key∧dG zv es gE v'):=by
 constructor
 ·rintro(⟨e,he,hk,hv⟩|⟨h1,h2⟩)
  ·rcases dC.1 he with he|he
   ·exact .inr ⟨by rw[←hk];exact hn e he,.inl ⟨e,he,hk,hv⟩⟩
   ·obtain rfl:=cC.1 he;exact .inl ⟨hk.symm,hv⟩
  ·exact .inr ⟨fun e=>h1 ⟨key,val,s⟩ (by simp) e.symm,.inr ⟨fun e he=>h1 e (kJ _ he),h2⟩⟩
 ·rintro(⟨rfl,rfl⟩|⟨eD,⟨e,he,hk,hv⟩|⟨h1,h2⟩⟩)
  ·exact .inl ⟨⟨_,_,s⟩,by simp,rfl,rfl⟩
  ·exact .inl ⟨e,kJ _ he,hk,hv⟩
  ·refine .inr ⟨fun e he=>?_,h2⟩;rcases dC.1 he with he|he
   ·exact h1 e he
   ·obtain rfl:=cC.1 he;exact fun e=>eD e.symm
theorem Rg.Jc {t e:TypeId} {key val:Value} {kl:Lit} (ht:P.underlying t=some (.map kt e)) (Kk:Keyed P kt) (hx:ev L x=some (.map (some b))) (hy:ev L y=some key) (hz:ev L z=some val) (hY:keyOf P kt key=some kl) (h:eE P kt w b es clock) (hm:M b)
  (k:∀w' mv BF,eE P kt w' b mv BF→((mv.map (·.key)=es.map (·.key)∧∃e∈es,e.key=key)∨(mv.map (·.key)=es.map (·.key)++[key]∧∀e∈es,e.key≠key))→(∀zv gE v',dG zv mv gE v'↔(gE=key∧v'=val)∨(gE≠key∧dG zv es gE v'))→Step M w M w' (fun k=>k=b)→Rg P r n ops rest L ds w' K):
  Rg P r n ops ({dst:=none,op:= .mapUpdate t x y z,type:=ty,pos,after:=af,guard:=none}::rest) L ds w K:=by
 have dA:=aj h.at_;rcases Kk.find w hY es h.ok with⟨h1,h2⟩|⟨j,e0,h1,h2,h3⟩
 ·have hw:({w with heap:=w.heap.setIfInBounds b (.map (es.toArray.push ⟨key,val,clock⟩) (clock+1))}:World).heap[b]? =some (.map (es++([⟨key,val,clock⟩]:List MapEntry)).toArray (clock+1)):=by
   simp[cH,dA]
  refine .OB (fun _ h=>by cases h) rfl rfl _ (fun ρ hρ=>?_) (k _ _ _ (h.push hY h2 hw) (Or.inr ⟨by simp,h2⟩) (dG.put h2) (gB M hm));simp only[execOp,hρ x _ hx,hρ y _ hy,hρ z _ hz,Instr.mapUpdate,cz,run_underlying ht,cY,cV h.at_,Kk.check w false hY,h1,run_setObj_map h.at_];simp
 ·have he:e0∈es:=aN h2;obtain⟨k0,v0,s0⟩:=e0;simp only at h3;subst h3;have hj:es.toArray[j]? =some ⟨k0,v0,s0⟩:=by simpa using h2
  have Gl:es.toArray.modify j (fun e=>{e with key:=k0,val:=val})=(es.set j ⟨k0,val,s0⟩).toArray:=by
   apply Array.ext_getElem?;intro i;rw[pX];simp only[gM,dJ]
   split
   ·rename_i QW
    subst QW;have:=(au.1 h2).1;rw[h2];simp[this]
   ·rfl
  have hw:({w with heap:=w.heap.setIfInBounds b (.map (es.set j ⟨k0,val,s0⟩).toArray clock)}:World).heap[b]? =some (.map (es.set j ⟨k0,val,s0⟩).toArray clock):=by simp[cH,dA]
  obtain⟨hW,pZ,uw⟩:=h.Nn h2 hw
  have iI:(Instr.keyThatStays ((Option.map (fun(e:MapEntry)=>e.key) es.toArray[j]?).getD k0) k0).run P w= .ok k0 w:=by
   rw[hj];simp only[ek,Option.getD_some];exact Kk.stays w hY
  refine .OB (fun _ h=>by cases h) rfl rfl _ (fun ρ hρ=>?_) (k _ _ clock hW (Or.inl ⟨pZ,_,he,rfl⟩) uw (gB M hm));simp only[execOp,hρ x _ hx,hρ y _ hy,hρ z _ hz,Instr.mapUpdate,cz,run_underlying ht,cY,cV h.at_,Kk.check w false hY,h1,iI,Gl,run_setObj_map h.at_];simp
theorem zY {t e:TypeId} {zv key:Value} {size bytes:Nat} {kl:Lit} (ht:P.underlying t=some (.map kt e)) (Kk:Keyed P kt) (hi:TI P e zv size bytes) (hY:keyOf P kt key=some kl) (h:eE P kt w b es clock):
  ∃v,dG zv es key v∧∀(w:World) (ρ:Operand→Value) (dst:Option Tmp) (gd:Option (Nat×Bool)),ρ x= .map (some b)→ρ y=key→eE P kt w b es clock→(execOp ρ {dst,op:= .lookup t x y false,type:=ty,pos,after:=af,guard:=gd}).run P w= .ok (.value v) w:=by
 rcases Kk.find w hY es h.ok with⟨h1,h2⟩|⟨j,e0,h1,h2,h3⟩
 ·refine⟨zv,Or.inr ⟨h2,rfl⟩,fun w ρ dst gd hx hy h=>?_⟩;obtain⟨inf,i1,i2,_,_⟩:=hi.get;have hz:(zeroValue e).run P w= .ok zv w:=by simp[zeroValue,typeInfo,i1,i2]
  rcases Kk.find w hY es h.ok with⟨h1,_⟩|⟨j,e0,_,g2,g3⟩
  ·simp only[execOp,hx,hy,Instr.lookup,cz,run_underlying ht,cY,cV h.at_,Sem.run_pure,Kk.check w _ hY,h1,hz];simp
  ·exact absurd g3 (h2 e0 (aN g2))
 ·refine⟨e0.val,Or.inl ⟨e0,aN h2,h3,rfl⟩,fun w ρ dst gd hx hy h=>?_⟩;rcases Kk.find w hY es h.ok with⟨_,g2⟩|⟨j',e1,g1,g2,g3⟩
  ·exact absurd h3 (g2 e0 (aN h2))
  ·have:e1=e0:=h.CS (aN g2) (aN h2) (g3.trans h3.symm);subst this;simp only[execOp,hx,hy,Instr.lookup,cz,run_underlying ht,cY,cV h.at_,Sem.run_pure,Kk.check w _ hY,g1];simp
theorem bI.pJ {N:aD} {t e:TypeId} {zv key:Value} {size bytes:Nat} {kl:Lit} {dst:Option Tmp} {gd:Option (Nat×Bool)} (ht:P.underlying t=some (.map kt e)) (Kk:Keyed P kt) (hi:TI P e zv size bytes) (hx:ev L x=some (.map (some b))) (hy:ev L y=some key) (hY:keyOf P kt key=some kl) (h:eE P kt w b es clock) (hn: ¬N b):
  bI P N w L {dst,op:= .lookup t x y false,type:=ty,pos,after:=af,guard:=gd}:=fun ρ hρ v w' hk hr=>by
 obtain⟨v0,_,fk⟩:=zY (x:=x) (y:=y) (ty:=ty) (pos:=pos) (af:=af) ht Kk hi hY h;have h':eE P kt w' b es clock:=⟨(hk.2 b (aj h.at_) hn).trans h.at_,h.born,h.lt,h.keys,h.ok⟩;rw[fk w ρ dst gd (hρ x _ hx) (hρ y _ hy) h]at hr;rw[fk w' ρ dst gd (hρ x _ hx) (hρ y _ hy) h'];injection hr with h1 h2
 rw[h1]
end
end Go.K

/- What the law 'SnapFrees' needs of walks and plain Lean, part 4: nothing is assumed beyond the texts that it imports. -/
import Derived.KernelRfl
import Derived.Test.YtbobcaffmbaadaaGreatDoorProg
import Derived.Test.YtbobcaffmbaadaaGreatDoorZSnapFrees1
import Derived.Test.YtbobcaffmbaadaaGreatDoorZSnapFrees2
import Derived.Test.YtbobcaffmbaadaaGreatDoorZSnapFrees3
set_option linter.unusedVariables false
set_option linter.unusedSimpArgs false
namespace Go.K
open Go.Proofs
set_option maxRecDepth 10000
theorem Jd {M:aD} {w0:World} {v:Value} {b:List Fd} (hM:Lt M w0) (hv:(RT.fd.sl).V M w0 b v) (AT:b.length≤1099511627776):
  Spec Tryz.prog 190 #[v] w0 (fun v' w'=>(RT.fd.sl).V M w' b v'∧Step M w0 M w' aw):=by
 obtain⟨a,cap,u1,hc,hl,hs⟩:=ir.1 hv;refine aR (args:=[_]) (fn:=Tryz.f190) Tryz.func190 rfl (n:=8) Tryz.ntmps190 (ai (ad (ah rfl rfl (ab (ai (ai (ad (ae rfl rfl (br (v':= .slice a b.length cap) u1 (Rg.kC aX rfl rfl rfl (ab ?_)))))))))));refine bK rfl (fun c1=>?_) (fun c1=>?_)
 ·refine ai (ad (ah rfl rfl (ab (aI ?_))))
  have hb:b=[]:=by
   rcases hs with h|⟨_,_,h,_⟩
   ·exact h
   ·rw[c1]at h;cases h
  exact aO rfl rfl ⟨by rw[hb];exact fZ,al _ _⟩
 ·refine aT (ai (ad ?_));refine Rg.Tq aX iL M rfl (fun a0 w1 s1=>?_);refine ae rfl rfl ?_;refine Rg.nM (A:=RT.fd) (hn:=by decide) (M:=M) aX iL rfl rfl rfl rfl hv s1.le (s1.lt hM) (by omega) (fun u2 w2 rB s2=>?_);refine ah rfl rfl (ab (aI ?_));exact aO rfl rfl ⟨rB,s1.ax s2⟩
theorem tR {M:aD} {w0:World} {v:Value} {b:List Int} (hM:Lt M w0) (hv:((RT.int .i64).sl).V M w0 b v) (AT:b.length≤1099511627776):
  Spec Tryz.prog 51 #[v] w0 (fun v' w'=>((RT.int .i64).sl).V M w' b v'∧Step M w0 M w' aw):=by
 obtain⟨a,cap,u1,hc,hl,hs⟩:=ir.1 hv;refine aR (args:=[_]) (fn:=Tryz.f51) Tryz.func51 rfl (n:=8) Tryz.ntmps51 (ai (ad (ah rfl rfl (ab (ai (ai (ad (ae rfl rfl (br (v':= .slice a b.length cap) u1 (Rg.kC ar rfl rfl rfl (ab ?_)))))))))));refine bK rfl (fun c1=>?_) (fun c1=>?_)
 ·refine ai (ad (ah rfl rfl (ab (aI ?_))))
  have hb:b=[]:=by
   rcases hs with h|⟨_,_,h,_⟩
   ·exact h
   ·rw[c1]at h;cases h
  exact aO rfl rfl ⟨by rw[hb];exact fZ,al _ _⟩
 ·refine aT (ai (ad ?_));refine Rg.Tq ar I3 M rfl (fun a0 w1 s1=>?_);refine ae rfl rfl ?_;refine Rg.nM (A:=(RT.int .i64)) (hn:=by decide) (M:=M) ar I3 rfl rfl rfl rfl hv s1.le (s1.lt hM) (by omega) (fun u2 w2 rB s2=>?_);refine ah rfl rfl (ab (aI ?_));exact aO rfl rfl ⟨rB,s1.ax s2⟩
theorem GH {M:aD} {w0:World} {v:Value} {b:List (List UInt8)} (hM:Lt M w0) (hv:(RT.str.sl).V M w0 b v) (AT:b.length≤1099511627776):
  Spec Tryz.prog 199 #[v] w0 (fun v' w'=>(RT.str.sl).V M w' b v'∧Step M w0 M w' aw):=by
 obtain⟨a,cap,u1,hc,hl,hs⟩:=ir.1 hv;refine aR (args:=[_]) (fn:=Tryz.f199) Tryz.func199 rfl (n:=8) Tryz.ntmps199 (ai (ad (ah rfl rfl (ab (ai (ai (ad (ae rfl rfl (br (v':= .slice a b.length cap) u1 (Rg.kC aV rfl rfl rfl (ab ?_)))))))))));refine bK rfl (fun c1=>?_) (fun c1=>?_)
 ·refine ai (ad (ah rfl rfl (ab (aI ?_))))
  have hb:b=[]:=by
   rcases hs with h|⟨_,_,h,_⟩
   ·exact h
   ·rw[c1]at h;cases h
  exact aO rfl rfl ⟨by rw[hb];exact fZ,al _ _⟩
 ·refine aT (ai (ad ?_));refine Rg.Tq aV I9 M rfl (fun a0 w1 s1=>?_);refine ae rfl rfl ?_;refine Rg.nM (A:=RT.str) (hn:=by decide) (M:=M) aV I9 rfl rfl rfl rfl hv s1.le (s1.lt hM) (by omega) (fun u2 w2 rB s2=>?_);refine ah rfl rfl (ab (aI ?_));exact aO rfl rfl ⟨rB,s1.ax s2⟩
theorem Je {M:aD} {w0:World} {v:Value} {b:List Li} (hM:Lt M w0) (hv:(((RT.li).ptr).sl).V M w0 b v) (AT:b.length≤1099511627776):
  Spec Tryz.prog 200 #[v] w0 (fun v' w'=>(((RT.li).ptr).sl).V M w' b v'∧Step M w0 M w' aw):=by
 obtain⟨a,cap,u1,hc,hl,hs⟩:=ir.1 hv;refine aR (args:=[_]) (fn:=Tryz.f200) Tryz.func200 rfl (n:=8) Tryz.ntmps200 (ai (ad (ah rfl rfl (ab (ai (ai (ad (ae rfl rfl (br (v':= .slice a b.length cap) u1 (Rg.kC cZ rfl rfl rfl (ab ?_)))))))))));refine bK rfl (fun c1=>?_) (fun c1=>?_)
 ·refine ai (ad (ah rfl rfl (ab (aI ?_))))
  have hb:b=[]:=by
   rcases hs with h|⟨_,_,h,_⟩
   ·exact h
   ·rw[c1]at h;cases h
  exact aO rfl rfl ⟨by rw[hb];exact fZ,al _ _⟩
 ·refine aT (ai (ad ?_));refine Rg.Tq cZ oN M rfl (fun a0 w1 s1=>?_);refine ae rfl rfl ?_;refine Rg.nM (A:=((RT.li).ptr)) (hn:=by decide) (M:=M) cZ oN rfl rfl rfl rfl hv s1.le (s1.lt hM) (by omega) (fun u2 w2 rB s2=>?_);refine ah rfl rfl (ab (aI ?_));exact aO rfl rfl ⟨rB,s1.ax s2⟩
theorem zZ {M:aD} {d:Dc} {v0:Value} (w0:World) (hM:Lt M w0) (hv:RT.dc.V M w0 d v0) (hl:d.2.length≤1099511627776):
  Spec Tryz.prog 138 #[v0] w0 (fun v w=>RT.dc.V M w d v∧Step M w0 M w aw):=by
 have lu:=hM;refine aR (args:=[_]) (fn:=Tryz.f138) Tryz.func138 rfl (n:=9) Tryz.ntmps138 ?_;have S:Step M w0 M w0 aw:=(al _ _).bN (fun _ h=>h.elim) (fun _ h=>h.elim);refine ai (ad ?_);refine Rg.ly (A:=RT.dc) rfl rfl hM hv rfl (fun u0 w1 cA s0 _=>?_);replace hM:=s0.lt hM;have:=S.size;replace S:=S.ax s0;refine ew M lY rfl (fun l7 BB MQ MR eV kS=>?_);obtain⟨ej,ka⟩:∃M',M'=ins M l7:=⟨_,rfl⟩;rw[←ka]at kS;have dV:ej l7:=by rw[ka];exact .inl rfl
 change BB.heap[l7]? =some (.cells #[.int .i64 0,.slice none 0 0] _ _)at eV;replace cA:=cA.le (by decide) kS.le;replace hM:=kS.lt hM;have:=S.size;replace S:=S.ax kS;refine ab (ai ?_);apply T.mW 4 [0,1] 1 aw mixed rfl rfl rfl rfl;intro FL IL;have ko:=IL ej;have:=aj eV;replace dV:=(ko.mem _ this).2 dV;replace eV:=ko.aE eV;replace cA:=cA.le (by decide) ko.le;replace hM:=ko.lt hM;have:=S.size;replace S:=S.ax ko;refine aM (M:=ej) (A:=RT.dc) (B:=RT.int .i64) aS rfl rfl I3 (by decide) (QB) rfl rfl (by decide) (by assumption) (by repeat (first|exact aq _ _|refine aU (bm (by assumption)) ?_)) (fun uP jC=>?_);refine ab ⟨rfl,rfl,rfl,?_⟩;refine cn (M:=ej) an rfl rfl (by assumption) (by repeat (first|exact aq _ _|refine aU (bm (by assumption)) ?_)) (fun Kx=>?_);refine ab ⟨rfl,rfl,rfl,?_⟩;refine aM (M:=ej) (A:=RT.dc) (B:=(RT.fd).sl) aS rfl rfl qt (by decide) (D0) rfl rfl (by decide) (by assumption) (by repeat (first|exact aq _ _|refine aU (bm (by assumption)) ?_)) (fun Jf tS=>?_);refine ab ⟨rfl,rfl,rfl,?_⟩;refine bZ (M:=ej) aX rfl rfl rfl rfl rfl (by assumption) (by repeat (first|exact aq _ _|refine aU (bm (by assumption)) ?_)) (fun Q9 GI=>?_);refine ab ⟨rfl,rfl,rfl,?_⟩;refine fo ?_;obtain⟨bb,oo,cs,ee,fr,rfl,kB,_⟩:=jC.float;refine⟨gO ⟨fQ aS rfl I3 (by decide),⟨ey rfl kB (fun h=>h),trivial⟩⟩,?_⟩;have kp:=iw aw FL;refine aJ rfl rfl U3 (Jd hM GI hl) (fun v4 w4 hc=>?_);obtain⟨pz,s4⟩:=hc;have:=aj eV;replace dV:=(s4.mem _ this).2 dV;replace eV:=s4.aE eV;replace cA:=cA.le (by decide) s4.le;replace hM:=s4.lt hM;have:=S.size;replace S:=S.ax s4;refine(fun(kp:ed _ _ _)=>ab ⟨rfl,rfl,fun _=>kp,?_⟩) (by first|exact kp|exact kp.o0 (by assumption)|exact kp.goN (by assumption)|exact kp.go (by assumption) (fun _ _ h=>by first|exact h|exact h.elim))
 refine dO (places:=[(0,1),(1,1)]) aS lY Tu rfl ⟨_,_,rfl,rfl,_,_,rfl,rfl,rfl⟩ (out:=[_,_]) ⟨0,[_],rfl,rfl,by simp[Value.cells],1,[_],rfl,jc pz,by simp[Value.cells],rfl⟩ ?_;refine ab ⟨rfl,rfl,fun h=>absurd rfl h,?_⟩;have hd:RT.dc.V ej w4 d (.agg [.int .i64 d.1,v4].toArray):=eA (gu Kx) pz rfl rfl rfl rfl;refine eP (M:=ej) (vs:=[.int .i64 d.1,v4]) lY rfl rfl (BR rfl hd) rfl rfl eV dV (fun w6 g6 s6=>?_);have:=aj eV;replace dV:=(s6.mem _ this).2 dV;replace cA:=cA.le (by decide) s6.le;replace pz:=pz.le s6.le;replace hd:=hd.le s6.le;replace hM:=s6.lt hM;have:=S.size;replace S:=S.trans s6 (fun k hk h=>by have h:_=_:=h;subst h;first|(exfalso;omega)|(show _≤_;omega)|exact⟨by first|omega|assumption,(S.mem _ hk).1 ((s6.mem _ (aj eV)).1 dV)⟩|exact .inl rfl|exact .inr rfl|exact .inr (.inl rfl)|exact .inr (.inr rfl)|exact .inr (.inr (.inl rfl))|exact rfl);have Aa:=g6;clear eV;have eV:=Aa;clear Aa;refine ab ⟨rfl,rfl,fun h=>absurd rfl h,?_⟩;refine oC (aI ?_);exact xz (vs:=[.int .i64 d.1,v4]) rfl rfl aS rfl lY rfl eV ⟨hd.le (Le.close lu S),S.back⟩
theorem GK {M:aD} {e:En} {v0:Value} (w0:World) (hM:Lt M w0) (hv:RT.en.V M w0 e v0) (hl:e.1.2.length≤1099511627776):
  Spec Tryz.prog 88 #[v0] w0 (fun v w=>RT.en.V M w e v∧Step M w0 M w aw):=by
 have lu:=hM;refine aR (args:=[_]) (fn:=Tryz.f88) Tryz.func88 rfl (n:=9) Tryz.ntmps88 ?_;have S:Step M w0 M w0 aw:=(al _ _).bN (fun _ h=>h.elim) (fun _ h=>h.elim);refine ai (ad ?_);refine Rg.ly (A:=RT.en) rfl rfl hM hv rfl (fun u0 w1 cA s0 _=>?_);replace hM:=s0.lt hM;have:=S.size;replace S:=S.ax s0;refine ew M CE rfl (fun l7 BB MQ MR eV kS=>?_);obtain⟨ej,ka⟩:∃M',M'=ins M l7:=⟨_,rfl⟩;rw[←ka]at kS;have dV:ej l7:=by rw[ka];exact .inl rfl
 change BB.heap[l7]? =some (.cells #[.int .i64 0,.slice none 0 0,.int .i64 0] _ _)at eV;replace cA:=cA.le (by decide) kS.le;replace hM:=kS.lt hM;have:=S.size;replace S:=S.ax kS;refine ab (ai ?_);apply T.Fh [0,1,3,4,2,5,6] 4 [2,3] 1 aw mixed
 ·simp+decide only[vU,qq,eL,List.map_nil,ur,uu,p6,ek,mL,List.idxOf_cons,cond_true,cond_false,Nat.reduceBEq,Nat.reduceAdd,beq_self_eq_true];rfl
 ·rfl
 ·rfl
 ·rfl
 ·rfl
 ·rfl
 ·rfl
 intro FL IL;have ko:=IL ej;have:=aj eV;replace dV:=(ko.mem _ this).2 dV;replace eV:=ko.aE eV;replace cA:=cA.le (by decide) ko.le;replace hM:=ko.lt hM;have:=S.size;replace S:=S.ax ko;refine aM (M:=ej) (A:=RT.en) (B:=RT.dc) dr rfl rfl lY (by decide) QC rfl rfl (by decide) cA (aq _ _) (fun uP jC=>?_);refine ab ⟨rfl,rfl,rfl,?_⟩;refine cM (M:=ej) (A:=RT.dc) aS rfl lY (by decide) rfl rfl rfl jC (aq _ _) (fun uQ kD=>?_);refine ab ⟨rfl,rfl,rfl,?_⟩;refine aM (M:=ej) (A:=RT.en) (B:=RT.int .i64) dr rfl rfl I3 (by decide) TE rfl rfl (by decide) cA (aq _ _) (fun Jf tS=>?_);refine ab ⟨rfl,rfl,rfl,?_⟩;refine cn (M:=ej) an rfl rfl (by assumption) (by repeat (first|exact aq _ _|refine aU (bm (by assumption)) ?_)) (fun GL=>?_);refine br (v':= .int .i64 (e.2)) rfl ?_;replace GL: -9223372036854775808≤(e.2:Int)∧e.2≤9223372036854775807:=GL;refine ab ⟨rfl,rfl,rfl,?_⟩;refine fo ?_;obtain⟨bb,oo,cs,ee,fr,rfl,kB,_⟩:=tS.float;refine⟨gO ⟨fQ dr rfl I3 (by decide),⟨ey rfl kB (fun h=>h),trivial⟩⟩,?_⟩;have kp:=iw aw FL;refine aJ rfl rfl UU (zZ _ hM kD hl) (fun v4 w4 hc=>?_);obtain⟨pz,s4⟩:=hc;obtain⟨uf,rfl⟩:=FX pz;have:=aj eV;replace dV:=(s4.mem _ this).2 dV;replace eV:=s4.aE eV;replace cA:=cA.le (by decide) s4.le;replace hM:=s4.lt hM;have:=S.size;replace S:=S.ax s4;refine(fun(kp:ed _ _ _)=>ab ⟨rfl,rfl,fun _=>kp,?_⟩) (by first|exact kp|exact kp.o0 (by assumption)|exact kp.goN (by assumption)|exact kp.go (by assumption) (fun _ _ h=>by first|exact h|exact h.elim));refine dO (places:=[(0,2),(2,1)]) dr CE ZU rfl ⟨_,_,rfl,rfl,_,_,rfl,rfl,rfl⟩ (out:=[_,_,_]) ⟨0,[_,_],rfl,rfl,by simp[Value.cells],2,[_],rfl,rfl,by simp[Value.cells],rfl⟩ ?_
 refine ab ⟨rfl,rfl,fun h=>absurd rfl h,?_⟩;have hd:RT.en.V ej w4 e (.agg [.int .i64 e.1.1,uf,.int .i64 e.2].toArray):=Km (p:=e.1) pz GL;refine eP (M:=ej) (vs:=[.int .i64 e.1.1,uf,.int .i64 e.2]) CE rfl rfl (BR rfl hd) rfl rfl eV dV (fun w6 g6 s6=>?_);have:=aj eV;replace dV:=(s6.mem _ this).2 dV;replace cA:=cA.le (by decide) s6.le;replace pz:=pz.le s6.le;replace hd:=hd.le s6.le;replace hM:=s6.lt hM;have:=S.size;replace S:=S.trans s6 (fun k hk h=>by have h:_=_:=h;subst h;first|(exfalso;omega)|(show _≤_;omega)|exact⟨by first|omega|assumption,(S.mem _ hk).1 ((s6.mem _ (aj eV)).1 dV)⟩|exact .inl rfl|exact .inr rfl|exact .inr (.inl rfl)|exact .inr (.inr rfl)|exact .inr (.inr (.inl rfl))|exact rfl);have Aa:=g6;clear eV;have eV:=Aa;clear Aa;refine ab ⟨rfl,rfl,fun h=>absurd rfl h,?_⟩;refine oC (aI ?_);exact xz (vs:=[.int .i64 e.1.1,uf,.int .i64 e.2]) rfl rfl dr rfl CE rfl eV ⟨hd.le (Le.close lu S),S.back⟩
end Go.K
namespace Go.K
open Go.Proofs
namespace TKBldB
theorem Ra:TI Tryz.prog 217 (.map none) 1 8:=by unfold TI;kernel_rfl
theorem WY:Enters Tryz.prog 133:=enters Tryz.func133 rfl (by decide)
theorem WZ:Enters Tryz.prog 134:=enters Tryz.func134 rfl (by decide)
theorem W0:Enters Tryz.prog 135:=enters Tryz.func135 rfl (by decide)
end TKBldB
open TKBldB
set_option maxRecDepth 10000
theorem IJ.aW {bt mb B:Nat} {ts:List (Fd×Nat)} {M M':aD} {w w':World} (h:IJ bt mb B ts M w) (s:Step M w M' w' aw):IJ bt mb B ts M' w':=by
 obtain⟨gb,dB,dW,hB,CY,es,clock,hW,hI⟩:=h;exact⟨s.aE gb,(s.mem _ (aj gb)).2 dB,(s.mem _ (aj hW.at_)).2 dW,hB,CY,es,clock,hW.aW s,hI.aW s⟩
theorem GM {bt mb B:Nat}:M5 Tryz.prog 133 [.pointer (some ⟨bt,0,none⟩)] B (IJ bt mb B):=
 ⟨WY,fun ts M w M' w' h s=>h.aW s,fun ts M w t i hJ hM h1 h2 hi h4=>D8 w hM h1 h2 hi h4 hJ⟩
theorem GN (M:aD) (w:World) (B:Nat):D7 M w B [] [] where
 o t v hv:=by
  rcases hv with⟨e,he,_⟩|⟨_,rfl⟩
  ·cases he
  ·exact eh _ _ _ _ _
 a t t' v v' _ hv _:=by
  rcases hv with⟨e,he,_⟩|⟨_,rfl⟩
  ·cases he
  ·exact(iN.nil v').symm
 k:=rfl
theorem Ab:∀(ts:List (Fd×Nat)) (l:List Fd),(ts.foldl (fun l p=>if p.1∈l then l else l++[p.1]) l).length≤l.length+ts.length
 |[],l=>by simp
 |p::ts,l=>by
  rw[List.foldl_cons,cq];refine fS (Ab ts _) ?_
  split
  ·omega
  ·rw[bP];simp;omega
theorem Jg (M:aD) (w:World) (M':aD) (w':World) (x:Fd) (vs:List Value) (h:RT.fd.R M w x vs):RT.fd.R M' w' x vs:=h
theorem Ac {M:aD} {d:Dc} {v0:Value} (w0:World) (hM:Lt M w0) (hv:RT.dc.V M w0 d v0) (hF:ja d) (hl:∀f∈d.2,f.1.length≤900000∧f.2.length≤900000):
  Spec Tryz.prog 87 #[v0] w0 (fun v w=>∃a b,v= .tuple #[a,b]∧(RT.fd.sl).V M w (cD (ca d.2)) a∧(((RT.int .i64).sl).sl).V M w ((cD (ca d.2)).map (posOf (ca d.2))) b∧Step M w0 M w aw):=by
 have lu:=hM;have KE:=hF.many;refine aR (args:=[_]) (fn:=Tryz.f87) Tryz.func87 rfl (n:=31) Tryz.ntmps87 ?_;have S:Step M w0 M w0 aw:=(al _ _).bN (fun _ h=>h.elim) (fun _ h=>h.elim);refine ai (ad ?_);refine Rg.ly (A:=RT.dc) rfl rfl hM hv rfl (fun u0 w1 cA s0 _=>?_);replace hM:=s0.lt hM;have:=S.size;replace S:=S.ax s0;refine ah rfl rfl (ah rfl rfl (ab (ai (ad ?_))));refine Rg.zI M jL rfl (fun mb w1m p1 q1 gW s1=>?_);obtain⟨No,GO⟩:∃M',M'=ins M mb:=⟨_,rfl⟩;rw[←GO]at s1;have ye:No mb:=by rw[GO];exact .inl rfl
 replace cA:=cA.le (by decide) s1.le;replace hM:=s1.lt hM;have:=S.size;replace S:=S.ax s1;refine ew No Ra rfl (fun Ed Nb aep aeq uU rE=>?_);obtain⟨GP,GQ⟩:∃M',M'=ins No Ed:=⟨_,rfl⟩;rw[←GQ]at rE;have tT:GP Ed:=by rw[GQ];exact .inl rfl
 change Nb.heap[Ed]? =some (.cells #[.map none] _ _)at uU;replace cA:=cA.le (by decide) rE.le;replace ye:=(rE.mem _ (aj gW.at_)).2 ye;replace gW:=gW.aW rE;replace hM:=rE.lt hM;have:=S.size;replace S:=S.ax rE;refine bL (M:=GP) Ra rfl rfl uU rfl (rfl) tT (fun y6 fu iM=>?_)
 try simp only[kI,List.set_cons_zero,List.set_cons_succ]at fu
 have:=aj uU;replace tT:=(iM.mem _ this).2 tT;replace cA:=cA.le (by decide) iM.le;replace ye:=(iM.mem _ (aj gW.at_)).2 ye;replace gW:=gW.step iM (by show¬(_=_);omega);replace hM:=iM.lt hM;have:=S.size;replace S:=S.trans iM (fun k hk h=>by have h:_=_:=h;subst h;first|(exfalso;omega)|(show _≤_;omega)|exact⟨by first|omega|assumption,(S.mem _ hk).1 ((iM.mem _ (aj uU)).1 tT)⟩|exact .inl rfl|exact .inr rfl|exact .inr (.inl rfl)|exact .inr (.inr rfl)|exact .inr (.inr (.inl rfl))|exact rfl);have KF:=fu;clear uU;have uU:=KF;clear KF;refine ab (ai (ad ?_));refine cM (M:=GP) (A:=RT.dc) aS rfl lY (by decide) rfl rfl rfl (by assumption) (by repeat (first|exact aq _ _|refine aU (bm (by assumption)) ?_)) (fun aer Rb=>?_);refine gG (xs:=[]) (ys:=[.tmp 4]) rfl rfl rfl ?_;refine aJ rfl rfl PI (wF (cap:=[.pointer (some ⟨Ed,0,none⟩)]) (B:=w0.heap.size) _ hM Rb hl hF.few (GM (mb:=mb)) ⟨uU,tT,ye,by omega,by omega,[],0,gW,GN _ _ _⟩) (fun r2 w2 hc=>?_);obtain⟨M2,Kj,⟨gb,_,_,_,_,es,clock,hW,hI⟩,s2⟩:=hc;replace S:=S.jR s2 (aZ _);have mH:∀t v,dG iX es (kv t) v→(((RT.int .i64).sl)).V M w2 (posOf (ca d.2) t) v:=fun t v h=>(hI.o t v h).close lu S (by have:=qF (ca d.2) t;omega)
 replace S:=S.back;replace hM:=S.lt lu
 have Rc:∀e∈es,∃t∈seen (ca d.2),e.key=kv t:=fun e he=>by
  have:e.key∈(seen (ca d.2)).map kv:=by rw[←hI.k];exact fw he
  obtain⟨t,h1,h2⟩:=cx.1 this;exact⟨t,h1,h2.symm⟩
 have yE:∀t∈seen (ca d.2),H0 t∧t.1.length≤12∧t.2.length≤30:=fun t ht=>by
  obtain⟨p,hp,rfl⟩:=cx.1 (pO.1 ht);exact⟨hF.Ja p hp,hF.small p hp⟩
 have nL:(seen (ca d.2)).length≤500:=fS (Ab _ _) (by simp;omega);have Cp:es.length≤500:=by have:=congrArg List.length hI.k;simp at this;omega
 refine ab (ai (ad (az jL rfl rfl rfl gb rfl ?_)));refine aJ rfl rfl W0 (BM _) (fun r3 w3 hc=>?_);obtain⟨bs,rfl,I2,_,s3⟩:=hc;replace s3:=s3.toAny M;replace hW:=hW.aW s3;replace gb:=s3.aE gb;replace mH:=fun t v h=>(mH t v h).le s3.le
 replace hM:=s3.lt hM;have:=S.size;replace S:=S.ax s3
 refine aJ rfl rfl WZ (zQ _ (fun e he=>by
  obtain⟨t,h1,h2⟩:=Rc e he;exact⟨t,h2,by have:=(yE t h1).2;omega,by have:=(yE t h1).2;omega⟩) (fun e he t ht=>by
  obtain⟨t',h1,h2⟩:=Rc e he;obtain rfl:=qE (ht.symm.trans h2);exact⟨(yE _ h1).1,by have:=(yE _ h1).2;omega,by have:=(yE _ h1).2;omega⟩) (by omega) (fun ts kL l2=>by
  have:=kL.length_le_of_subset (l₂:=seen (ca d.2)) (fun t ht=>(pL hI.k).1 (l2 t ht));omega) I2 hW) (fun r4 w4 hc=>?_)
 obtain⟨us,kL,l2,Ll,Q3,s4⟩:=hc;obtain rfl:=zT hF.Ja kL (fun t=>(l2 t).trans (pL hI.k)) Ll;have Q2:(cD (ca d.2)).length≤500:=fS (kL.length_le_of_subset (l₂:=seen (ca d.2)) (fun t ht=>pO.2 ((iZ hF.Ja).1 ht))) nL;replace s4:=s4.toAny M;have yt:(RT.fd.sl).V M w4 (cD (ca d.2)) r4:=Q3.tell Jg (fun b hb h=>by have:=(Q3.base b hb).1;have:=hM b h;omega) (by omega);clear Q3;replace hW:=hW.aW s4;replace gb:=s4.aE gb;replace mH:=fun t v h=>(mH t v h).le s4.le
 replace hM:=s4.lt hM;have:=S.size;replace S:=S.ax s4;refine ah rfl rfl (ab (ai (ad (ah rfl rfl (ab (ai (ai (ad (ae rfl rfl (bM gZ rfl yt rfl (ae rfl rfl ?_)))))))))));refine ab (a7 ?_);refine dd (σ:=Nat×Value) (fun q=>[(4,.pointer (some ⟨Ed,0,none⟩)),(5,r4),(6,q.2),(16,r4),(17,.int .i64 ((cD (ca d.2)).length:Int)),(18,.int .i64 (q.1:Int))]) (fun q w=>∃M',Lt M' w∧Step M w0 M' w aw∧Own ((RT.int .i64).sl) 37 M' w w0.heap.size q.2 (((cD (ca d.2)).take q.1).map (posOf (ca d.2)))∧(RT.fd.sl).V M' w (cD (ca d.2)) r4∧eE Tryz.prog 78 w mb es clock∧w.heap[Ed]? =some (.cells #[.map (some mb)] 217 (0,0))∧(∀t v,dG iX es (kv t) v→(((RT.int .i64).sl)).V M' w (posOf (ca d.2) t) v)∧q.1≤(cD (ca d.2)).length) (fun q=>(cD (ca d.2)).length-q.1) (0,.slice none 0 0) (.cons rfl (.cons rfl (.cons rfl (.cons rfl (.cons rfl (.cons rfl .nil)))))) ?_ ?_
 ·exact⟨M,hM,S,eh _ _ _ _ _,yt,hW,gb,mH,bG _⟩
 ·clear hM yt hW gb mH S;rintro⟨i,u⟩ w ⟨M1,hM,S,ho,yt,hW,gb,mH,hi⟩;dsimp only at ho hi ⊢;refine ai (ad (bY rfl rfl rfl (ab (ai ?_))));refine bK rfl (fun c6=>?_) (fun c6=>?_)
  ·refine aT (ai (a7 (ai (ad ?_))));refine dq (M:=M1) gZ sT rfl rfl rfl yt (aq _ _) (by omega) (fun QI t Re CR=>?_);rw[aG]at Re;have Ik:=aN Re;have E3:=yE t (pO.2 ((iZ hF.Ja).1 Ik));refine cM (M:=M1) (A:=RT.fd) cg rfl sT (by decide) rfl rfl rfl CR (aq _ _) (fun Wo Ks=>?_);refine rI (A:=RT.fd) (M:=M1) sT rfl rfl rfl rfl rfl (by assumption) (aq _ _) hM (fun W2 Rf wN qG aes=>?_);replace yt:=yt.le qG.le;replace ho:=ho.aW qG;replace hW:=hW.aW qG;replace gb:=qG.aE gb;replace mH:=fun t v h=>(mH t v h).le qG.le
   replace hM:=qG.lt hM;have:=S.size;replace S:=S.ax qG;refine ab (ad (ae rfl rfl (az jL rfl rfl rfl gb rfl ?_)));refine cM (M:=M1) (A:=RT.fd) cg rfl sT (by decide) rfl rfl rfl wN (aq _ _) (fun aet Rh=>?_);obtain rfl:=l5 Rh;obtain⟨kl,Dq⟩:=Gr t (by omega) (by omega);refine Rg.pJ jL wC lI rfl rfl rfl Dq hW (fun v8 u1=>?_);have C3:=mH _ _ u1;clear u1;refine fa (A:=((RT.int .i64).sl)) (hn:=by decide) (M:=M1) Tryz.underlying119 lI (by decide) rfl rfl hM (C3) (.inr ⟨rfl,rfl⟩) (fun aeu aev GR Ad=>?_);replace yt:=yt.le Ad.le;replace wN:=wN.le (by decide) Ad.le;replace ho:=ho.aW Ad;replace hW:=hW.aW Ad;replace gb:=Ad.aE gb;replace mH:=fun t v h=>(mH t v h).le Ad.le
   replace hM:=Ad.lt hM;have:=S.size;replace S:=S.ax Ad;refine cQ (M:=M1) (base:=w0.heap.size) Tryz.underlying119 lI rfl rfl rfl rfl ho GR (aq _ _) (by simp;omega) (by simp;omega) (S.size) (fun W3 W4 aew Ri Ae=>?_);replace yt:=yt.le Ae.le;replace wN:=wN.le (by decide) Ae.le;replace GR:=GR.le Ae.le;replace hW:=hW.step Ae (fun h=>ho.iY hW.at_ h);replace gb:=Ae.bB gb (fun h=>ho.ef gb (by decide) h);replace mH:=fun t v h=>(mH t v h).le Ae.le
   replace hM:=Ae.lt hM;have:=S.size;replace S:=S.dE Ae ho (aZ _);replace ho:=Ri;refine ah rfl rfl (ab (ad (bA rfl rfl rfl (by omega) (ae rfl rfl (ab ?_)))));refine⟨rfl,(i+1,W3),(.cons rfl (.cons rfl (.cons rfl (.cons rfl (.cons rfl (.cons rfl .nil)))))),?_,?_⟩
   ·exact⟨W4,hM,S,by rw[cw,Re,dp,ic];exact ho,yt,hW,gb,mH,by dsimp only;omega⟩
   ·dsimp only;omega
  ·refine cB (ai (ad (ae rfl rfl (ae rfl rfl (ah rfl rfl (ah rfl rfl (ab (aI ?_))))))));have e:(cD (ca d.2)).take i=cD (ca d.2):=bT (by omega);rw[e]at ho;exact dX rfl rfl rfl ⟨_,_,rfl,yt.le (Le.close lu S),ho.close lu S (by simp;omega),S.back⟩
end Go.K
namespace Go.K
open Go.Proofs
namespace TKBldC
theorem LP:TI Tryz.prog 153 (.agg #[(.slice none 0 0),(.map none),(.int .i64 0),(.int .i64 0)]) 4 48:=by unfold TI;kernel_rfl
theorem LR:placesOf Tryz.prog 153=[(0,1),(1,1),(2,1),(3,1)].map some:=by kernel_rfl
end TKBldC
open TKBldC
set_option maxRecDepth 10000
open Go.Maps (Keyed)
theorem pS:Keyed Tryz.prog 9:=Go.Maps.string_keyed aF
theorem GS (k:List UInt8) (h:k.length≤140737488355328):∃l,keyOf Tryz.prog 9 (sv k)=some l:=by
 have e1:(⟨k.toArray⟩:ByteArray).size=k.length:=by simp[ByteArray.size]
 exact⟨_,Go.WideMaps.keyOf_string_mk aF (by rw[e1];unfold maxLen;omega)⟩
structure Af (Z:aD) (M:aD) (w:World) (B:Nat) (f:List UInt8→List Po) (K:List UInt8→Prop) (es:List MapEntry):Prop where
 o:∀k v,dG iX es (sv k) v→Own RT.po 83 M w B v (f k)
 a:∀k k' v v',k≠k'→dG iX es (sv k) v→dG iX es (sv k') v'→iN v v'
 k:∀x,(∃e∈es,e.key=sv x)↔K x
 z:∀k v c,dG iX es (sv k) v→v.ownBlock=some c→Z c
theorem Af.step {Z M M' N:aD} {w w':World} {B:Nat} {f:List UInt8→List Po} {K:List UInt8→Prop} {es:List MapEntry} (h:Af Z M w B f K es) (s:Step M w M' w' N) (hn:∀k v b,dG iX es (sv k) v→v.ownBlock=some b→¬N b):Af Z M' w' B f K es:=
 ⟨fun k v hv=>(h.o k v hv).step s fun b hb=>hn k v b hv hb,h.a,h.k,h.z⟩
theorem Af.aW {Z M M':aD} {w w':World} {B:Nat} {f:List UInt8→List Po} {K:List UInt8→Prop} {es:List MapEntry} (h:Af Z M w B f K es) (s:Step M w M' w' aw):Af Z M' w' B f K es:=h.step s fun _ _ _ _ _ h=>h
theorem Af.congr {Z M:aD} {w:World} {B:Nat} {f f':List UInt8→List Po} {K K':List UInt8→Prop} {es:List MapEntry} (h:Af Z M w B f K es) (hf:∀k,f' k=f k) (hK:∀k,K' k↔K k):Af Z M w B f' K' es:=
 ⟨fun k v hv=>by rw[hf];exact h.o k v hv,h.a,fun x=>(h.k x).trans (hK x).symm,h.z⟩
theorem Af.Ee {Z Z' M:aD} {w:World} {B:Nat} {f:List UInt8→List Po} {K:List UInt8→Prop} {es:List MapEntry} (h:Af Z M w B f K es) (hz:∀c,Z c→c<w.heap.size→Z' c):Af Z' M w B f K es:=
 ⟨h.o,h.a,h.k,fun k v c hv hc=>hz c (h.z k v c hv hc) ((h.o k v hv).base c hc).2⟩
theorem Af.put {Z M M2:aD} {w w1 w2:World} {B mb c:Nat} {mes:Array MapEntry} {f:List UInt8→List Po} {K:List UInt8→Prop} {es Np:List MapEntry} {k0:List UInt8} {v0 v1:Value} {ps:List Po} (h:Af Z M w B f K es) (hZ:∀c,w.heap.size≤c→Z c) (JS:dG iX es (sv k0) v0)
  (TT:Own RT.po 83 (jQ M v1) w1 B v1 (f k0++ps)) (s1:Step M w (jQ M v1) w1 (jw v0)) (hF:∀b,v1.ownBlock=some b→w.heap.size≤b∨v0.ownBlock=some b) (hmb:w1.heap[mb]? =some (.map mes c)) (s2:Step (jQ M v1) w1 M2 w2 (fun k=>k=mb))
  (BN:∀zv gE v',dG zv Np gE v'↔(gE=sv k0∧v'=v1)∨(gE≠sv k0∧dG zv es gE v')) (my:(Np.map (·.key)=es.map (·.key)∧∃e∈es,e.key=sv k0)∨(Np.map (·.key)=es.map (·.key)++[sv k0]∧∀e∈es,e.key≠sv k0)):
  Af Z M2 w2 B (fun k=>if k=k0 then f k0++ps else f k) (fun x=>K x∨x=k0) Np:=by
 have oh:∀k v,dG iX Np (sv k) v→(k=k0∧v=v1)∨(k≠k0∧dG iX es (sv k) v):=fun k v hv=>by
  rcases(BN iX (sv k) v).1 hv with⟨h3,h4⟩|⟨h3,h4⟩
  ·exact .inl ⟨yb h3,h4⟩
  ·exact .inr ⟨fun e=>h3 (by rw[e]),h4⟩
 have I6:∀k v,k≠k0→dG iX es (sv k) v→iN v1 v:=fun k v eD hv=>(h.a k k0 v v0 eD hv JS).symm.grown hF (fun b hb=>((h.o k v hv).base b hb).2)
 have I7:∀k v,k≠k0→dG iX es (sv k) v→Own RT.po 83 (jQ M v1) w1 B v (f k):=fun k v eD hv=>(h.o k v hv).step s1 (fun b hb hk=>h.a k k0 v v0 eD hv JS b hb hk)
 have UG:∀{v:Value} {xs:List Po},Own RT.po 83 (jQ M v1) w1 B v xs→∀b,v.ownBlock=some b→¬b=mb:=fun ho b hb e=>ho.iY hmb (by rw[←e];exact hb)
 refine⟨fun k v hv=>?_,fun k k' v v' eD hv nZ=>?_,fun x=>?_,fun k v c hv hc=>?_⟩
 ·rcases oh k v hv with⟨rfl,rfl⟩|⟨h3,h4⟩
  ·rw[if_pos rfl];exact TT.step s2 (UG TT)
  ·rw[if_neg h3];exact(I7 k v h3 h4).step s2 (UG (I7 k v h3 h4))
 ·rcases oh k v hv with⟨rfl,rfl⟩|⟨h3,h4⟩
  ·rcases oh k' v' nZ with⟨rfl,_⟩|⟨h5,h6⟩
   ·exact absurd rfl eD
   ·exact I6 k' v' h5 h6
  ·rcases oh k' v' nZ with⟨rfl,rfl⟩|⟨h5,h6⟩
   ·exact(I6 k v h3 h4).symm
   ·exact h.a k k' v v' eD h4 h6
 ·have l2:(∃e∈Np,e.key=sv x)↔sv x∈Np.map (·.key):=by simp
  have W5:(∃e∈es,e.key=sv x)↔sv x∈es.map (·.key):=by simp
  rw[l2,←h.k x,W5];rcases my with⟨h3,e,he,hk⟩|⟨h3,_⟩
  ·rw[h3];constructor
   ·exact .inl
   ·rintro(h4|rfl)
    ·exact h4
    ·rw[←hk];exact fw he
  ·rw[h3,dC,cC];constructor
   ·rintro(h4|h4)
    ·exact .inl h4
    ·exact .inr (yb h4)
   ·rintro(h4|rfl)
    ·exact .inl h4
    ·exact .inr rfl
 ·rcases oh k v hv with⟨rfl,rfl⟩|⟨h3,h4⟩
  ·rcases hF c hc with h5|h5
   ·exact hZ c h5
   ·exact h.z _ _ c JS h5
  ·exact h.z k v c h4 hc
theorem Jh (Z M:aD) (w:World) (B:Nat):Af Z M w B (pk []) (fun x=>x∈ik []) [] where
 o k v hv:=by
  rcases hv with⟨e,he,_⟩|⟨_,rfl⟩
  ·cases he
  ·exact eh _ _ _ _ _
 a k k' v v' _ hv _:=by
  rcases hv with⟨e,he,_⟩|⟨_,rfl⟩
  ·cases he
  ·exact(iN.nil v').symm
 k x:=by simp[ik]
 z k v c hv hc:=by
  rcases hv with⟨e,he,_⟩|⟨_,rfl⟩
  ·cases he
  ·cases hc
structure Buf (Z M:aD) (w:World) (B b mb:Nat) (vl:Value) (L:List En) (words last:Int) (f:List UInt8→List Po) (K:List UInt8→Prop) (es:List MapEntry) (clock:Nat):Prop where
 at_:w.heap[b]? =some (.cells #[vl,.map (some mb),.int .i64 words,.int .i64 last] 153 (0,0))
 m:M b
 mm:M mb
 hb:Z b
 hmb:Z mb
 l:Own RT.en 71 M w B vl L
 map:eE Tryz.prog 9 w mb es clock
 rows:Af Z M w B f K es
 zl:∀c,vl.ownBlock=some c→Z c
def lF (Z M:aD) (w:World) (B b:Nat) (L:List En) (words last:Int):Prop:=∃mb vl es clock,Buf Z M w B b mb vl L words last (pk L) (fun x=>x∈ik L) es clock
theorem lF.aW {Z M M':aD} {w w':World} {B b:Nat} {L:List En} {words last:Int} (h:lF Z M w B b L words last) (s:Step M w M' w' aw):lF Z M' w' B b L words last:=by
 obtain⟨mb,vl,es,clock,h1,h2,h3,h4,h5,h6,h7,h8,h9⟩:=h;exact⟨mb,vl,es,clock,s.aE h1,(s.mem _ (aj h1)).2 h2,(s.mem _ (aj h7.at_)).2 h3,h4,h5,h6.aW s,h7.aW s,h8.aW s,h9⟩
theorem lF.Ee {Z Z' M:aD} {w:World} {B b:Nat} {L:List En} {words last:Int} (h:lF Z M w B b L words last) (hz:∀c,Z c→c<w.heap.size→Z' c):lF Z' M w B b L words last:=by
 obtain⟨mb,vl,es,clock,h1,h2,h3,h4,h5,h6,h7,h8,h9⟩:=h;exact⟨mb,vl,es,clock,h1,h2,h3,hz _ h4 (aj h1),hz _ h5 (aj h7.at_),h6,h7,h8.Ee hz,fun c hc=>hz c (h9 c hc) (h6.base c hc).2⟩
theorem lF.step {Z M M' N:aD} {w w':World} {B b:Nat} {L:List En} {words last:Int} (h:lF Z M w B b L words last) (s:Step M w M' w' N) (hn:∀k,N k→¬Z k):lF Z M' w' B b L words last:=by
 obtain⟨mb,vl,es,clock,h1,h2,h3,h4,h5,h6,h7,h8,h9⟩:=h;exact⟨mb,vl,es,clock,s.bB h1 (fun hk=>hn _ hk h4),(s.mem _ (aj h1)).2 h2,(s.mem _ (aj h7.at_)).2 h3,h4,h5,h6.step s (fun c hc hk=>hn _ hk (h9 c hc)),h7.step s (fun hk=>hn _ hk h5),h8.step s (fun k v c hv hc hk=>hn _ hk (h8.z k v c hv hc)),h9⟩
theorem lF.stepT {Z M M' N:aD} {w w':World} {B b:Nat} {L:List En} {words last:Int} (h:lF Z M w B b L words last) (s:Step M w M' w' N) (hn:∀k,N k→∃cs t,w.heap[k]? =some (.cells cs t (0,0))∧t≠153∧t≠71∧t≠83):lF Z M' w' B b L words last:=by
 obtain⟨mb,vl,es,clock,h1,h2,h3,h4,h5,h6,h7,h8,hz⟩:=h;refine⟨mb,vl,es,clock,s.bB h1 (fun hk=>?_),(s.mem _ (aj h1)).2 h2,(s.mem _ (aj h7.at_)).2 h3,h4,h5,h6.step s (fun c hc hk=>?_),h7.step s (fun hk=>?_),h8.step s (fun k v c hv hc hk=>?_),hz⟩
 ·obtain⟨cs,t,h9,Ef,_⟩:=hn _ hk;rw[h1]at h9;simp at h9;exact Ef h9.2.symm
 ·obtain⟨cs,t,h9,_,Ef,_⟩:=hn _ hk;exact h6.ef h9 Ef hc
 ·obtain⟨cs,t,h9,_⟩:=hn _ hk;rw[h7.at_]at h9;cases h9
 ·obtain⟨cs,t,h9,_,_,Ef⟩:=hn _ hk;exact(h8.o k v hv).ef h9 Ef hc
def GU (M Z:aD):aD:=fun k=>Z k∧M k
theorem dG.ex (zv:Value) (es:List MapEntry) (key:Value):∃v,dG zv es key v:=by
 by_cases h:∃e∈es,e.key=key
 ·obtain⟨e,he,hk⟩:=h;exact⟨e.val,.inl ⟨e,he,hk,rfl⟩⟩
 ·exact⟨zv,.inr ⟨fun e he hk=>h ⟨e,he,hk⟩,rfl⟩⟩
def lG (last:Int) (e:En):Int:=if lz e.1≠0 then lz e.1 else if e.2≤last then 12 else 0
def GV (L:List En) (tl:List (Fd×Nat)) (i:Nat) (k:List UInt8):List Po:=pk L k++(((cD tl).take i).filter fun t=>decide (du t=k)).map fun t=>((L.length:Int),posOf tl t)
theorem GW (L:List En) (tl:List (Fd×Nat)) (k:List UInt8):GV L tl 0 k=pk L k:=by simp[GV]
theorem GX {L:List En} {tl:List (Fd×Nat)} {i:Nat} {t:Fd} (h:(cD tl)[i]? =some t) (k:List UInt8):GV L tl (i+1) k=if k=du t then GV L tl i (du t)++[((L.length:Int),posOf tl t)]else GV L tl i k:=by
 unfold GV;rw[cw,h,dp,List.filter_append,ic]
 split
 ·rename_i e;subst e;simp
 ·rename_i e
  have: ¬du t=k:=fun h=>e h.symm
  simp[this]
theorem Ji {L:List En} {e:En} {i:Nat} (h:(cD (pQ e)).length≤i) (k:List UInt8):GV L (pQ e) i k=pk (L++[e]) k:=by
 unfold GV;rw[Jb,bT h];rfl
theorem Jj {L:List En} (hF:∀x∈L,ja x.1) (tl:List (Fd×Nat)) (i:Nat) (k:List UInt8):(GV L tl i k).length≤L.length+(cD tl).length:=by
 unfold GV;have h1:=(tQ k L 0 hF).1;have h2:=List.length_filter_le (fun t=>decide (du t=k)) ((cD tl).take i);have h3:=List.length_take_le i (cD tl);have h4:(pk L k).length≤L.length:=h1;simp only[bP,de,bS]at*;omega
theorem wO {d:Dc} (hF:ja d):(cD (ca d.2)).length≤500:=by
 have h1:=(pN hF.Ja).nodup.length_le_of_subset (l₂:=(ca d.2).map (·.1)) (fun t ht=>(iZ hF.Ja).1 ht);have:=hF.many;simp at h1;omega
theorem ja.term {d:Dc} (hF:ja d) {t:Fd} (h:t∈cD (ca d.2)):t.1.length≤12∧t.2.length≤30:=by
 obtain⟨p,hp,rfl⟩:=cx.1 ((iZ hF.Ja).1 h);exact hF.small p hp
theorem GY {Z M:aD} {B:Nat} (w0:World) (hM:Lt M w0) (hB:B≤w0.heap.size) (hZ:∀k,w0.heap.size≤k→Z k):
  Spec Tryz.prog 39 #[] w0 (fun v w=>∃M' b,v= .pointer (some ⟨b,0,none⟩)∧Lt M' w∧lF Z M' w B b [] 0 (-1)∧Step M w0 M' w aw):=by
 refine aR (args:=[]) (fn:=Tryz.f39) Tryz.func39 rfl (n:=4) Tryz.ntmps39 ?_;have S:Step M w0 M w0 aw:=(al _ _).bN (fun _ h=>h.elim) (fun _ h=>h.elim);refine ai (ad (ah rfl rfl (ab (ai (ad ?_)))));refine Rg.zI M eu rfl (fun mb w1m p1 q1 gW s1=>?_);obtain⟨No,GO⟩:∃M',M'=ins M mb:=⟨_,rfl⟩;rw[←GO]at s1;have ye:No mb:=by rw[GO];exact .inl rfl
 replace hM:=s1.lt hM;have:=S.size;replace S:=S.ax s1;refine dO (places:=[(0,1),(1,1),(2,1),(3,1)]) cE LP LR rfl ⟨_,_,rfl,rfl,_,_,rfl,rfl,rfl⟩ (out:=[.slice none 0 0,_,.int .i64 0,_]) ⟨1,[_],rfl,rfl,by simp[Value.cells],3,[_],rfl,rfl,by simp[Value.cells],rfl⟩ ?_;refine iJ No rfl rfl (fun Bc y6 PS PT fu iM=>?_);obtain⟨Rj,GZ⟩:∃M',M'=ins No Bc:=⟨_,rfl⟩;rw[←GZ]at iM;have Nq:Rj Bc:=by rw[GZ];exact .inl rfl
 change y6.heap[Bc]? =some (.cells #[.slice none 0 0,.map (some mb),.int .i64 0,.int .i64 (-1)] _ _)at fu;replace ye:=(iM.mem _ (aj gW.at_)).2 ye;replace gW:=gW.aW iM;replace hM:=iM.lt hM;have:=S.size;replace S:=S.ax iM;refine ah rfl rfl (ab (aI ?_));exact aO rfl rfl ⟨_,_,rfl,hM,⟨mb,_,[],0,fu,Nq,ye,hZ _ (by omega),hZ _ (by omega),eh _ _ _ _ _,gW,Jh _ _ _ _,fun c hc=>by cases hc⟩,S⟩
end Go.K
namespace Go.K
open Go.Proofs
namespace TKBldD
theorem Rk:TI Tryz.prog 29 (.slice none 0 0) 1 24:=by unfold TI;kernel_rfl
theorem rO:TI Tryz.prog 80 (.slice none 0 0) 1 24:=by unfold TI;kernel_rfl
theorem xE:TI Tryz.prog 151 (.map none) 1 8:=by unfold TI;kernel_rfl
theorem E86:Enters Tryz.prog 86:=enters Tryz.func86 rfl (by decide)
theorem E87:Enters Tryz.prog 87:=enters Tryz.func87 rfl (by decide)
theorem E88:Enters Tryz.prog 88:=enters Tryz.func88 rfl (by decide)
theorem E89:Enters Tryz.prog 89:=enters Tryz.func89 rfl (by decide)
end TKBldD
open TKBldD
set_option maxRecDepth 10000
set_option maxHeartbeats 4000000 in
theorem G0 {Z M:aD} {B b:Nat} {L:List En} {words last:Int} {e:En} {v0:Value} (w0:World) (hM:Lt M w0) (hZ:∀k,w0.heap.size≤k→Z k) (hb:lF Z M w0 B b L words last) (hBw:B≤w0.heap.size) (hv:RT.en.V M w0 e v0) (hl:∀f∈e.1.2,f.1.length≤900000∧f.2.length≤900000) (hLF:∀x∈L,ja x.1) (hLn:L.length≤1000000) (hw:0≤words∧words≤1000000000):
  Spec Tryz.prog 40 #[.pointer (some ⟨b,0,none⟩),v0] w0 (fun v w=>∃M',Lt M' w∧Step M w0 M' w (GU M Z)∧v= .int .i64 (lG last e)∧(lG last e≠0→lF Z M' w B b L words last)∧(lG last e=0→lF Z M' w B b (L++[e]) (words+((pQ e).length:Int)) e.2)):=by
 obtain⟨mb,vl,es,clock,gb,dB,dW,hB,CY,ho,hW,hR,zl⟩:=hb;have KD:b≠mb:=fun h=>by have:=hW.at_;rw[←h,gb]at this;cases this
 refine aR (args:=[_,_]) (fn:=Tryz.f40) Tryz.func40 rfl (n:=89) Tryz.ntmps40 ?_;have S:Step M w0 M w0 (GU M Z):=(al _ _).bN (fun _ h=>h.elim) (fun _ h=>h.2);refine ai (ad ?_);refine Rg.ly (A:=RT.en) rfl rfl hM hv rfl (fun u0 w1 cA s0 _=>?_);have:=aj gb;replace dB:=(s0.mem _ this).2 dB;replace gb:=s0.aE gb;replace ho:=ho.aW s0;replace dW:=(s0.mem _ (aj hW.at_)).2 dW;replace hW:=hW.aW s0;replace hR:=hR.aW s0;replace hM:=s0.lt hM;have:=S.size;replace S:=S.ax s0;refine ah rfl rfl (ab (ai (ai (ad ?_))));refine aM (M:=M) (A:=RT.en) (B:=RT.dc) dr rfl rfl lY (by decide) QC rfl rfl (by decide) cA (aq _ _) (fun uP jC=>?_);refine cM (M:=M) (A:=RT.dc) aS rfl lY (by decide) rfl rfl rfl jC (aq _ _) (fun uQ kD=>?_);refine aJ rfl rfl E86 (FZ _ hM kD hl) (fun r2 w2 hc=>?_);obtain⟨rfl,s2⟩:=hc;have:=aj gb;replace dB:=(s2.mem _ this).2 dB;replace gb:=s2.aE gb;replace cA:=cA.le (by decide) s2.le;replace ho:=ho.aW s2;replace dW:=(s2.mem _ (aj hW.at_)).2 dW;replace hW:=hW.aW s2;replace hR:=hR.aW s2;replace hM:=s2.lt hM;have:=S.size;replace S:=S.ax s2;refine ah rfl rfl (ab (ai (ad (ae rfl rfl (eg rfl rfl rfl (ab ?_))))));refine bK rfl (fun c2=>?_) (fun c2=>?_)
 ·refine ai (ad (ae rfl rfl (ah rfl rfl (ab (aI ?_)))));have ea:lG last e=lz e.1:=if_pos c2;exact aO rfl rfl ⟨_,hM,S,by rw[ea],fun _=>⟨mb,vl,es,clock,gb,dB,dW,hB,CY,ho,hW,hR,zl⟩,fun h=>absurd (ea▸h) c2⟩
 ·have hF:ja e.1:=C0 (by simpa using c2);refine aT (ai (ai ?_));apply T.kO mixed rfl rfl;intro wD4 sA4;have wR:=sA4 M;have:=aj gb;replace dB:=(wR.mem _ this).2 dB;replace gb:=wR.aE gb;replace cA:=cA.le (by decide) wR.le;replace ho:=ho.aW wR;replace dW:=(wR.mem _ (aj hW.at_)).2 dW;replace hW:=hW.aW wR;replace hR:=hR.aW wR;replace hM:=wR.lt hM;have:=S.size;replace S:=S.ax wR;refine aM (M:=M) (A:=RT.en) (B:=RT.int .i64) dr rfl rfl I3 (by decide) TE rfl rfl (by decide) cA (aq _ _) (fun MD CQ=>?_);refine ab ⟨rfl,rfl,rfl,?_⟩;refine cn (M:=M) an rfl rfl (by assumption) (by repeat (first|exact aq _ _|refine aU (bm (by assumption)) ?_)) (fun KG=>?_);refine br (v':= .int .i64 (e.2)) rfl ?_;replace KG: -9223372036854775808≤(e.2:Int)∧e.2≤9223372036854775807:=KG;refine ab ⟨rfl,rfl,rfl,?_⟩;refine ae rfl rfl ?_;refine ab ⟨rfl,rfl,rfl,?_⟩;refine aC rfl ⟨_,rfl⟩ rfl ?_;refine ab ⟨rfl,rfl,rfl,?_⟩;refine aB (o':=3) cE rfl rfl I3 (by decide) rfl rfl ?_;refine ab ⟨rfl,rfl,rfl,?_⟩;refine az an rfl rfl rfl (by first|assumption|exact bQ wR (by assumption)) rfl ?_;refine ab ⟨rfl,rfl,rfl,?_⟩;refine fc rfl rfl rfl ?_;refine ab ⟨rfl,rfl,rfl,?_⟩;refine fo ?_;refine bK rfl (fun c4=>?_) (fun c4=>?_)
  ·refine ai (ad (ah rfl rfl (ab (aI ?_))));have ea:lG last e=12:=by unfold lG;rw[if_neg (fun h=>h (by simpa using c2)),if_pos c4]
   exact aO rfl rfl ⟨_,hM,S,by rw[ea],fun _=>⟨mb,vl,es,clock,gb,dB,dW,hB,CY,ho,hW,hR,zl⟩,fun h=>absurd (ea▸h) (by decide)⟩
  ·refine aT (ai (ad ?_));refine aM (M:=M) (A:=RT.en) (B:=RT.dc) dr rfl rfl lY (by decide) QC rfl rfl (by decide) cA (aq _ _) (fun QN Ga=>?_);refine cM (M:=M) (A:=RT.dc) aS rfl lY (by decide) rfl rfl rfl Ga (aq _ _) (fun MU tD=>?_);refine aJ rfl rfl E87 (Ac _ hM tD hF hl) (fun r6 w6 hc=>?_);obtain⟨a6,b6,rfl,ha,nV,s6⟩:=hc;have:=aj gb;replace dB:=(s6.mem _ this).2 dB;replace gb:=s6.aE gb;replace cA:=cA.le (by decide) s6.le;replace ho:=ho.aW s6;replace dW:=(s6.mem _ (aj hW.at_)).2 dW;replace hW:=hW.aW s6;replace hR:=hR.aW s6;replace hM:=s6.lt hM;have:=S.size;replace S:=S.ax s6;refine ae rfl rfl (bu rfl rfl rfl (bu rfl rfl rfl (ah rfl rfl (ah rfl rfl (ab (ai (ai (ad (ae rfl rfl (bM gZ rfl ha rfl (ae rfl rfl ?_)))))))))));refine ab (a7 ?_);refine dd (σ:=Nat) (fun q=>[(0,.pointer (some ⟨b,0,none⟩)),(3,u0),(7,b6),(30,a6),(31,.int .i64 ((cD (pQ e)).length:Int)),(32,.int .i64 (q:Int))]) (fun q w=>∃M' es clock,Lt M' w∧Step M w0 M' w (GU M Z)∧cf RT.en M' w u0 e∧(RT.fd.sl).V M' w (cD (pQ e)) a6∧(((RT.int .i64).sl).sl).V M' w ((cD (pQ e)).map (posOf (pQ e))) b6∧Buf Z M' w B b mb vl L words last (GV L (pQ e) q) (fun x=>x∈ik L∨x∈((cD (pQ e)).take q).map du) es clock∧q≤(cD (pQ e)).length) (fun q=>(cD (pQ e)).length-q) 0 (.cons rfl (.cons rfl (.cons rfl (.cons rfl (.cons rfl (.cons rfl .nil)))))) ?_ ?_
   ·exact⟨_,es,clock,hM,S,cA,ha,nV,⟨gb,dB,dW,hB,CY,ho,hW,hR.congr (fun k=>GW _ _ _) (fun k=>by simp),zl⟩,bG _⟩
   ·clear hM S cA ha nV gb dB dW ho hW hR;rintro i w ⟨M1,es,clock,hM,S,cA,ha,nV,⟨gb,dB,dW,_,_,ho,hW,hR,_⟩,hi⟩;refine ai (ad (bY rfl rfl rfl (ab (ai ?_))));refine bK rfl (fun c8=>?_) (fun c8=>?_)
    ·refine aT (ai (a7 (ai (ad (ae rfl rfl ?_)))));refine dq (M:=M1) gZ sT rfl rfl rfl ha (aq _ _) (by omega) (fun W6 t Kz G1=>?_);rw[aG]at Kz;have Ik:=aN Kz;have E3:=hF.term Ik;refine cM (M:=M1) (A:=RT.fd) cg rfl sT (by decide) rfl rfl rfl G1 (aq _ _) (fun W7 G2=>?_);obtain rfl:=l5 G2;refine ew M1 sT rfl (fun tU Qf aeE aeF ma nq=>?_);obtain⟨rl,G3⟩:∃M',M'=ins M1 tU:=⟨_,rfl⟩;rw[←G3]at nq;have yf:rl tU:=by rw[G3];exact .inl rfl
     change Qf.heap[tU]? =some (.cells #[.string ⟨#[]⟩,.string ⟨#[]⟩] _ _)at ma;have:=aj gb;replace dB:=(nq.mem _ this).2 dB;replace gb:=nq.aE gb;replace cA:=cA.le (by decide) nq.le;replace ha:=ha.le nq.le;replace nV:=nV.le nq.le;replace ho:=ho.aW nq;replace dW:=(nq.mem _ (aj hW.at_)).2 dW;replace hW:=hW.aW nq;replace hR:=hR.aW nq;replace hM:=nq.lt hM;have:=S.size;replace S:=S.ax nq;refine ah rfl rfl ?_;refine eP (M:=rl) (vs:=[.string ⟨t.1.toArray⟩,.string ⟨t.2.toArray⟩]) sT rfl rfl (BR rfl G2) rfl rfl ma yf (fun w9 g9 s9=>?_);have:=aj gb;replace dB:=(s9.mem _ this).2 dB;replace gb:=s9.bB gb (fun hk=>by have hk:_=_:=hk;omega);have:=aj ma;replace yf:=(s9.mem _ this).2 yf;replace cA:=cA.le (by decide) s9.le;replace ha:=ha.le s9.le;replace nV:=nV.le s9.le;replace ho:=ho.step s9 (fun c hc (h:_=_)=>by first|exact ho.ef gb (by decide) (h▸hc)|exact ho.ef ma (by decide) (h▸hc));replace dW:=(s9.mem _ (aj hW.at_)).2 dW;replace hW:=hW.step s9 (by first|exact fun h=>ho.iY hW.at_ h|exact fun(h:mb=b)=>KD h.symm|exact fun(h:mb=tU)=>by have h9:=hW.at_;rw[h,ma]at h9;cases h9);replace hR:=hR.step s9 (by first|exact fun k v c hv hc h=>(hR.o k v hv).iE ho (by decide) hc h|exact fun k v c hv hc (h:c=b)=>(hR.o k v hv).ef gb (by decide) (h▸hc)|exact fun k v c hv hc (h:c=tU)=>(hR.o k v hv).ef ma (by decide) (h▸hc));replace hM:=s9.lt hM;have:=S.size;replace S:=S.trans s9 (fun k hk h=>by have h:_=_:=h;subst h;first|(exfalso;omega)|(show _≤_;omega)|exact⟨by first|omega|assumption,(S.mem _ hk).1 ((s9.mem _ (aj ma)).1 yf)⟩|exact .inl rfl|exact .inr rfl|exact .inr (.inl rfl)|exact .inr (.inr rfl)|exact .inr (.inr (.inl rfl))|exact rfl);have KH:=g9;clear ma;have ma:=KH;clear KH;refine ab (ai (ad (fX (vs:=[.string ⟨t.1.toArray⟩,.string ⟨t.2.toArray⟩]) cg rfl sT rfl rfl rfl ma ?_)))
     refine aJ rfl rfl Tx (Gv (t:=t) _ hM (by omega) (by omega)) (fun r10 TG hc=>?_);obtain⟨rfl,ny⟩:=hc;have:=aj gb;replace dB:=(ny.mem _ this).2 dB;replace gb:=ny.aE gb;replace cA:=cA.le (by decide) ny.le;replace ha:=ha.le ny.le;replace nV:=nV.le ny.le;replace ho:=ho.aW ny;replace dW:=(ny.mem _ (aj hW.at_)).2 dW;replace hW:=hW.aW ny;replace hR:=hR.aW ny;replace hM:=ny.lt hM;have:=S.size;replace S:=S.ax ny;refine ah rfl rfl (ab ?_);obtain⟨v10,u1⟩:=dG.ex iX es (sv (du t));apply T.mW 21 [0,1,2,3,4,5,6,7,8,9,10] 2 (jw v10) mixed rfl rfl rfl rfl;intro DK Fp;have gS:=Fp rl;have:=aj gb;replace dB:=(gS.mem _ this).2 dB;replace gb:=gS.aE gb;replace cA:=cA.le (by decide) gS.le;replace ha:=ha.le gS.le;replace nV:=nV.le gS.le;replace ho:=ho.aW gS;replace dW:=(gS.mem _ (aj hW.at_)).2 dW;replace hW:=hW.aW gS;replace hR:=hR.aW gS;replace hM:=gS.lt hM;have:=S.size;replace S:=S.ax gS;refine ae rfl rfl ?_;refine ab ⟨rfl,rfl,rfl,?_⟩;refine aC rfl ⟨_,rfl⟩ rfl ?_;refine ab ⟨rfl,rfl,rfl,?_⟩;refine aB (o':=1) cE rfl rfl xE (by decide) rfl rfl ?_;refine ab ⟨rfl,rfl,rfl,?_⟩;refine az eu rfl rfl rfl (by first|assumption|exact bQ gS (by assumption)) rfl ?_;refine ab ⟨rfl,rfl,rfl,?_⟩;refine ae rfl rfl ?_;refine ab ⟨rfl,rfl,rfl,?_⟩;refine ae rfl rfl ?_;refine ab ⟨rfl,rfl,rfl,?_⟩;refine aC rfl ⟨_,rfl⟩ rfl ?_;refine ab ⟨rfl,rfl,rfl,?_⟩;refine aB (o':=1) cE rfl rfl xE (by decide) rfl rfl ?_;refine ab ⟨rfl,rfl,rfl,?_⟩;refine az eu rfl rfl rfl (by first|assumption|exact bQ gS (by assumption)) rfl ?_;refine ab ⟨rfl,rfl,rfl,?_⟩;refine ae rfl rfl ?_;refine ab ⟨rfl,rfl,rfl,?_⟩;obtain⟨kl,Dq⟩:=GS (du t) (by unfold du;simp;omega);refine Rg.pJ eu pS rO rfl rfl rfl Dq hW (fun W8 W9=>?_)
     obtain rfl:v10=W8:=hW.val_one u1 W9;have sr:=Jj hLF (pQ e) i (du t);have JX:(cD (pQ e)).length≤500:=wO hF;refine ab ⟨rfl,rfl,rfl,?_⟩;refine ae rfl rfl ?_;refine ab ⟨rfl,rfl,rfl,?_⟩;refine aC rfl ⟨_,rfl⟩ rfl ?_;refine ab ⟨rfl,rfl,rfl,?_⟩;refine aB (o':=0) cE rfl rfl Rk (by decide) rfl rfl ?_;refine ab ⟨rfl,rfl,rfl,?_⟩;refine az gw rfl rfl rfl (by first|assumption|exact bQ gS (by assumption)) rfl ?_;refine ab ⟨rfl,rfl,rfl,?_⟩;refine gN gw rfl ho rfl ?_;refine ab ⟨rfl,rfl,rfl,?_⟩;refine ae rfl rfl ?_;refine ab ⟨rfl,rfl,rfl,?_⟩;refine ae rfl rfl ?_;refine ab ⟨rfl,rfl,rfl,?_⟩;refine dq (M:=rl) Tryz.underlying119 lI rfl rfl rfl nV (aq _ _) (by simp;omega) (fun u18 ps Rl Xa=>?_);rw[aG,dZ,Kz]at Rl;obtain rfl:=bU Rl;refine ab ⟨rfl,rfl,rfl,?_⟩;refine bZ (M:=rl) ar rfl rfl rfl rfl rfl Xa (aq _ _) (fun v19 Rm=>?_);refine ab ⟨rfl,rfl,rfl,?_⟩;refine dO (places:=[(0,1),(1,1)]) bO ni Tv rfl ⟨_,_,rfl,rfl,_,_,rfl,rfl,rfl⟩ (out:=[_,_]) ⟨0,[_],rfl,rfl,by simp[Value.cells],1,[_],rfl,jc Rm,by simp[Value.cells],rfl⟩ ?_;have G4:RT.po.V rl _ ((L.length:Int),posOf (pQ e) t) _:=eA (gu (by omega)) Rm rfl rfl rfl rfl;refine ab ⟨rfl,rfl,rfl,?_⟩;refine fo ?_;have og:=hR.o _ _ u1;refine⟨gO ⟨eN,⟨oE rfl,⟨fQ cE rfl xE (by decide),⟨ey rfl gb (fun h=>og.ef gb (by decide) h),⟨eN,⟨eN,⟨oE rfl,⟨fQ cE rfl xE (by decide),⟨ey rfl gb (fun h=>og.ef gb (by decide) h),⟨eN,⟨bI.pJ eu pS rO rfl rfl Dq hW (fun h=>og.iY hW.at_ h),trivial⟩⟩⟩⟩⟩⟩⟩⟩⟩⟩⟩,?_⟩;have kp:=iw (jw v10) DK;refine fa (A:=RT.po) (hn:=by decide) (M:=rl) a8 ni (by decide) rfl rfl hM (G4) (.inl rfl) (fun Xb Xc Jk kd=>?_)
     have:=aj gb;replace dB:=(kd.mem _ this).2 dB;replace gb:=kd.aE gb;replace cA:=cA.le (by decide) kd.le;replace ha:=ha.le kd.le;replace nV:=nV.le kd.le;replace ho:=ho.aW kd;replace dW:=(kd.mem _ (aj hW.at_)).2 dW;replace hW:=hW.aW kd;replace hR:=hR.aW kd;replace hM:=kd.lt hM;have:=S.size;replace S:=S.ax kd;refine(fun(kp:ed _ _ _)=>ab ⟨rfl,rfl,fun _=>kp,?_⟩) (by first|exact kp|exact kp.o0 (by assumption)|exact kp.goN (by assumption)|exact kp.go (by assumption) (fun _ _ h=>by first|exact h|exact h.elim));refine Rg.kr (M:=rl) (base:=B) a8 ni rfl rfl rfl rfl (hR.o _ _ u1) Jk (aq _ _) (by simp;omega) (by simp;omega) (by have:=S.size;omega) (fun v22 w22 Xd G5 Xe=>?_);have og:=hR.o _ _ u1;have aaH:=hW.at_;have Rn:v10.ownBlock≠some mb:=og.iY hW.at_;have KI:=ho.step G5 (fun c hc h=>ho.iE og (by decide) hc h);have BS:=(G5.mem _ (aj hW.at_)).2 dW;have Jl:=hW.step G5 Rn;have Ro:=G5.bB gb (fun h=>og.ef gb (by decide) h);have Nr:=(G5.mem _ (aj gb)).2 dB;have S22:=S.trans G5 (fun k hk h=>⟨hR.z _ _ k u1 h,(S.mem k hk).1 (og.mut_ k h)⟩);have Xf:=G5.lt hM;replace cA:=cA.le (by decide) G5.le;replace ha:=ha.le G5.le;replace nV:=nV.le G5.le;refine(fun(kp:ed _ _ _)=>ab ⟨rfl,rfl,fun _=>kp,?_⟩) (by first|exact kp|exact kp.o0 (by assumption)|exact kp.goN (by assumption)|exact kp.go (by assumption) (fun _ _ h=>by first|exact h|exact h.elim));refine Rg.Jc eu pS rfl rfl rfl Dq Jl BS (fun w23 Xg Xh Xi Xj Nt H2=>?_);have Xk:=hR.put (fun c hc=>hZ c (by have:=S.size;omega)) u1 Xd G5 Xe Jl.at_ H2 Nt Xj;replace cA:=cA.le (by decide) H2.le;replace ha:=ha.le H2.le;replace nV:=nV.le H2.le;have Xl:=KI.step H2 (fun c hc (h:c=mb)=>KI.iY Jl.at_ (h▸hc));have Xm:=H2.bB Ro KD;have Nu:=(H2.mem _ (aj Ro)).2 Nr
     have Nv:=(H2.mem _ (aj Jl.at_)).2 BS;have Xn:=H2.lt Xf;have S23:=S22.trans H2 (fun k hk (h:k=mb)=>⟨by rw[h];exact CY,(S22.mem k hk).1 (by rw[h];exact BS)⟩);refine ab ⟨rfl,rfl,fun h=>absurd rfl h,?_⟩;refine oC (ad (bA rfl rfl rfl (by omega) (ae rfl rfl (ab ?_))));refine⟨rfl,i+1,(.cons rfl (.cons rfl (.cons rfl (.cons rfl (.cons rfl (.cons rfl .nil)))))),?_,?_⟩
     ·exact⟨_,Xg,Xh,Xn,S23,cA,ha,nV,⟨Xm,Nu,Nv,hB,CY,Xl,Xi,Xk.congr (fun k=>GX Kz k) (fun k=>by rw[cw,Kz,dp,ic,dC,or_assoc];simp),zl⟩,by omega⟩
     ·omega
    ·refine cB (ai ?_);apply T.mW 6 [0,1,2,3,4] 3 (jw vl) mixed rfl rfl rfl rfl;intro MH MI;have l6:=MI M1;have:=aj gb;replace dB:=(l6.mem _ this).2 dB;replace gb:=l6.aE gb;replace cA:=cA.le (by decide) l6.le;replace ha:=ha.le l6.le;replace nV:=nV.le l6.le;replace ho:=ho.aW l6;replace dW:=(l6.mem _ (aj hW.at_)).2 dW;replace hW:=hW.aW l6;replace hR:=hR.aW l6;replace hM:=l6.lt hM;have:=S.size;replace S:=S.ax l6;refine ae rfl rfl ?_;refine ab ⟨rfl,rfl,rfl,?_⟩;refine ae rfl rfl ?_;refine ab ⟨rfl,rfl,rfl,?_⟩;refine aC rfl ⟨_,rfl⟩ rfl ?_;refine ab ⟨rfl,rfl,rfl,?_⟩;refine aB (o':=0) cE rfl rfl Rk (by decide) rfl rfl ?_;refine ab ⟨rfl,rfl,rfl,?_⟩;refine az gw rfl rfl rfl gb rfl (br (v':=vl) rfl ?_);refine ab ⟨rfl,rfl,rfl,?_⟩;refine cM (M:=M1) (A:=RT.en) dr rfl CE (by decide) rfl rfl rfl cA (aq _ _) (fun Kv xW=>?_);refine ab ⟨rfl,rfl,rfl,?_⟩;refine fo ?_;refine⟨gO ⟨eN,⟨eN,⟨oE rfl,⟨fQ cE rfl Rk (by decide),⟨ey rfl gb (fun h=>ho.ef gb (by decide) h),trivial⟩⟩⟩⟩⟩,?_⟩;have kp:=iw (jw vl) MH;refine aJ rfl rfl E88 (GK _ hM xW (by have:=hF.few;omega)) (fun aaJ OX hc=>?_);obtain⟨BT,om⟩:=hc;have:=aj gb;replace dB:=(om.mem _ this).2 dB;replace gb:=om.aE gb;replace cA:=cA.le (by decide) om.le;replace ha:=ha.le om.le;replace nV:=nV.le om.le;replace ho:=ho.aW om;replace dW:=(om.mem _ (aj hW.at_)).2 dW;replace hW:=hW.aW om;replace hR:=hR.aW om;replace hM:=om.lt hM;have:=S.size;replace S:=S.ax om;refine(fun(kp:ed _ _ _)=>ab ⟨rfl,rfl,fun _=>kp,?_⟩) (by first|exact kp|exact kp.o0 (by assumption)|exact kp.goN (by assumption)|exact kp.go (by assumption) (fun _ _ h=>by first|exact h|exact h.elim));refine fa (A:=RT.en) (hn:=by decide) (M:=M1) gw CE (by decide) rfl rfl hM (BT) (.inl rfl) (fun aaK aaL Nw mA=>?_)
     have:=aj gb;replace dB:=(mA.mem _ this).2 dB;replace gb:=mA.aE gb;replace cA:=cA.le (by decide) mA.le;replace ha:=ha.le mA.le;replace nV:=nV.le mA.le;replace BT:=BT.le mA.le;replace ho:=ho.aW mA;replace dW:=(mA.mem _ (aj hW.at_)).2 dW;replace hW:=hW.aW mA;replace hR:=hR.aW mA;replace hM:=mA.lt hM;have:=S.size;replace S:=S.ax mA;refine(fun(kp:ed _ _ _)=>ab ⟨rfl,rfl,fun _=>kp,?_⟩) (by first|exact kp|exact kp.o0 (by assumption)|exact kp.goN (by assumption)|exact kp.go (by assumption) (fun _ _ h=>by first|exact h|exact h.elim));refine Rg.kr (M:=M1) (base:=B) gw CE rfl rfl rfl rfl ho Nw (aq _ _) (by simp;omega) (by simp;omega) (by have:=S.size;omega) (fun Ag aaM Nx rn Xo=>?_);replace dB:=(rn.mem _ (aj gb)).2 dB
     have zl':∀c,Ag.ownBlock=some c→Z c:=fun c hc=>by
      rcases Xo c hc with h|h
      ·exact hZ c (by have:=S.size;omega)
      ·exact zl c h
     replace hR:=hR.step rn (fun k v c hv hc h=>(hR.o k v hv).iE ho (by decide) hc h);replace dW:=(rn.mem _ (aj hW.at_)).2 dW;replace hW:=hW.step rn (fun h=>ho.iY hW.at_ h);replace gb:=rn.bB gb (fun h=>ho.ef gb (by decide) h);replace cA:=cA.le (by decide) rn.le;replace S:=S.trans rn (fun k hk h=>⟨zl k h,(S.mem k hk).1 (ho.mut_ k h)⟩);replace hM:=rn.lt hM;replace ho:=Nx;obtain⟨Jm,Xp⟩:∃M',M'=jQ M1 Ag:=⟨_,rfl⟩;rw[←Xp]at hR dW cA S hM ho dB;refine(fun(kp:ed _ _ _)=>ab ⟨rfl,rfl,fun _=>kp,?_⟩) (by first|exact kp|exact kp.o0 (by assumption)|exact kp.goN (by assumption)|exact kp.go (by assumption) (fun _ _ h=>by first|exact h|exact h.elim));refine aC rfl ⟨_,rfl⟩ rfl ?_;refine ab ⟨rfl,rfl,fun h=>absurd rfl h,?_⟩;refine aB (o':=0) cE rfl rfl Rk (by decide) rfl rfl ?_;refine ab ⟨rfl,rfl,fun h=>absurd rfl h,?_⟩;refine bL (M:=Jm) Rk rfl rfl gb rfl (by obtain⟨_,_,he,_⟩:=ho.isSlice;rw[he];rfl) dB (fun Ny G6 mc=>?_);change Ny.heap[_]? =some (Obj.cells #[Ag,.map (some mb),.int .i64 words,.int .i64 last] _ _)at G6;have:=aj gb;replace dB:=(mc.mem _ this).2 dB;replace cA:=cA.le (by decide) mc.le;replace ho:=ho.step mc (fun c hc (h:_=_)=>by first|exact ho.ef gb (by decide) (h▸hc)|exact ho.ef ma (by decide) (h▸hc));replace dW:=(mc.mem _ (aj hW.at_)).2 dW;replace hW:=hW.step mc (by first|exact fun h=>ho.iY hW.at_ h|exact fun(h:mb=b)=>KD h.symm|exact fun(h:mb=tU)=>by have h9:=hW.at_;rw[h,ma]at h9;cases h9);replace hR:=hR.step mc (by first|exact fun k v c hv hc h=>(hR.o k v hv).iE ho (by decide) hc h|exact fun k v c hv hc (h:c=b)=>(hR.o k v hv).ef gb (by decide) (h▸hc)|exact fun k v c hv hc (h:c=tU)=>(hR.o k v hv).ef ma (by decide) (h▸hc));replace hM:=mc.lt hM;have:=S.size;replace S:=S.trans mc (fun k hk h=>by have h:_=_:=h;subst h;first|(exfalso;omega)|(show _≤_;omega)|exact⟨by first|omega|assumption,(S.mem _ hk).1 ((mc.mem _ (aj gb)).1 dB)⟩|exact .inl rfl|exact .inr rfl|exact .inr (.inl rfl)|exact .inr (.inr rfl)|exact .inr (.inr (.inl rfl))|exact rfl)
     have Gt:=G6;clear gb;have gb:=Gt;clear Gt;refine ab ⟨rfl,rfl,fun h=>absurd rfl h,?_⟩;refine oC (ai ?_);apply T.mW 6 [0,1,2,3] 1 aw mixed rfl rfl rfl rfl;intro Nz G7;have nW:=G7 Jm;have:=aj gb;replace dB:=(nW.mem _ this).2 dB;replace gb:=nW.aE gb;replace cA:=cA.le (by decide) nW.le;replace ho:=ho.aW nW;replace dW:=(nW.mem _ (aj hW.at_)).2 dW;replace hW:=hW.aW nW;replace hR:=hR.aW nW;replace hM:=nW.lt hM;have:=S.size;replace S:=S.ax nW;refine ae rfl rfl ?_;refine ab ⟨rfl,rfl,rfl,?_⟩;refine aC rfl ⟨_,rfl⟩ rfl ?_;refine ab ⟨rfl,rfl,rfl,?_⟩;refine aB (o':=2) cE rfl rfl I3 (by decide) rfl rfl ?_;refine ab ⟨rfl,rfl,rfl,?_⟩;refine az an rfl rfl rfl (by first|assumption|exact bQ nW (by assumption)) rfl ?_;refine ab ⟨rfl,rfl,rfl,?_⟩;refine aM (M:=Jm) (A:=RT.en) (B:=RT.dc) dr rfl rfl lY (by decide) QC rfl rfl (by decide) cA (aq _ _) (fun aaN NA=>?_);refine ab ⟨rfl,rfl,rfl,?_⟩;refine cM (M:=Jm) (A:=RT.dc) aS rfl lY (by decide) rfl rfl rfl NA (aq _ _) (fun aaO NB=>?_);refine ab ⟨rfl,rfl,rfl,?_⟩;refine fo ?_;refine⟨gO ⟨eN,⟨oE rfl,⟨fQ cE rfl I3 (by decide),⟨ey rfl gb (fun h=>h),trivial⟩⟩⟩⟩,?_⟩;have kp:=iw aw Nz;refine aJ rfl rfl E89 (zM _ hM NB hl hF.few) (fun r14 MX hc=>?_);obtain⟨rfl,ij⟩:=hc;have:=aj gb;replace dB:=(ij.mem _ this).2 dB;replace gb:=ij.aE gb;replace cA:=cA.le (by decide) ij.le;replace ho:=ho.aW ij;replace dW:=(ij.mem _ (aj hW.at_)).2 dW;replace hW:=hW.aW ij;replace hR:=hR.aW ij;replace hM:=ij.lt hM;have:=S.size;replace S:=S.ax ij;refine(fun(kp:ed _ _ _)=>ab ⟨rfl,rfl,fun _=>kp,?_⟩) (by first|exact kp|exact kp.o0 (by assumption)|exact kp.goN (by assumption)|exact kp.go (by assumption) (fun _ _ h=>by first|exact h|exact h.elim))
     have:=hF.many;refine bA rfl rfl rfl (by omega) ?_;refine ab ⟨rfl,rfl,fun h=>absurd rfl h,?_⟩;refine aC rfl ⟨_,rfl⟩ rfl ?_;refine ab ⟨rfl,rfl,fun h=>absurd rfl h,?_⟩;refine aB (o':=2) cE rfl rfl I3 (by decide) rfl rfl ?_;refine ab ⟨rfl,rfl,fun h=>absurd rfl h,?_⟩;refine bL (M:=Jm) I3 rfl rfl gb rfl (rfl) dB (fun NC G8 me=>?_);change NC.heap[_]? =some (Obj.cells #[Ag,.map (some mb),.int .i64 (words+((pQ e).length:Int)),.int .i64 last] _ _)at G8;have:=aj gb;replace dB:=(me.mem _ this).2 dB;replace cA:=cA.le (by decide) me.le;replace ho:=ho.step me (fun c hc (h:_=_)=>by first|exact ho.ef gb (by decide) (h▸hc)|exact ho.ef ma (by decide) (h▸hc));replace dW:=(me.mem _ (aj hW.at_)).2 dW;replace hW:=hW.step me (by first|exact fun h=>ho.iY hW.at_ h|exact fun(h:mb=b)=>KD h.symm|exact fun(h:mb=tU)=>by have h9:=hW.at_;rw[h,ma]at h9;cases h9);replace hR:=hR.step me (by first|exact fun k v c hv hc h=>(hR.o k v hv).iE ho (by decide) hc h|exact fun k v c hv hc (h:c=b)=>(hR.o k v hv).ef gb (by decide) (h▸hc)|exact fun k v c hv hc (h:c=tU)=>(hR.o k v hv).ef ma (by decide) (h▸hc));replace hM:=me.lt hM;have:=S.size;replace S:=S.trans me (fun k hk h=>by have h:_=_:=h;subst h;first|(exfalso;omega)|(show _≤_;omega)|exact⟨by first|omega|assumption,(S.mem _ hk).1 ((me.mem _ (aj gb)).1 dB)⟩|exact .inl rfl|exact .inr rfl|exact .inr (.inl rfl)|exact .inr (.inr rfl)|exact .inr (.inr (.inl rfl))|exact rfl);have Gt:=G8;clear gb;have gb:=Gt;clear Gt;refine ab ⟨rfl,rfl,fun h=>absurd rfl h,?_⟩;refine oC (ai (ad (ae rfl rfl ?_)));refine aM (M:=Jm) (A:=RT.en) (B:=RT.int .i64) dr rfl rfl I3 (by decide) TE rfl rfl (by decide) cA (aq _ _) (fun aaP Xq=>?_);refine cn (M:=Jm) an rfl rfl (by assumption) (by repeat (first|exact aq _ _|refine aU (bm (by assumption)) ?_)) (fun G9=>?_)
     refine br (v':= .int .i64 (e.2)) rfl ?_;replace G9: -9223372036854775808≤(e.2:Int)∧e.2≤9223372036854775807:=G9;refine aC rfl ⟨_,rfl⟩ rfl (aB (o':=3) cE rfl rfl I3 (by decide) rfl rfl ?_);refine bL (M:=Jm) I3 rfl rfl gb rfl (rfl) dB (fun KJ KK il=>?_);change KJ.heap[_]? =some (Obj.cells #[Ag,.map (some mb),.int .i64 (words+((pQ e).length:Int)),.int .i64 e.2] _ _)at KK;have:=aj gb;replace dB:=(il.mem _ this).2 dB;replace cA:=cA.le (by decide) il.le;replace ho:=ho.step il (fun c hc (h:_=_)=>by first|exact ho.ef gb (by decide) (h▸hc)|exact ho.ef ma (by decide) (h▸hc));replace dW:=(il.mem _ (aj hW.at_)).2 dW;replace hW:=hW.step il (by first|exact fun h=>ho.iY hW.at_ h|exact fun(h:mb=b)=>KD h.symm|exact fun(h:mb=tU)=>by have h9:=hW.at_;rw[h,ma]at h9;cases h9);replace hR:=hR.step il (by first|exact fun k v c hv hc h=>(hR.o k v hv).iE ho (by decide) hc h|exact fun k v c hv hc (h:c=b)=>(hR.o k v hv).ef gb (by decide) (h▸hc)|exact fun k v c hv hc (h:c=tU)=>(hR.o k v hv).ef ma (by decide) (h▸hc));replace hM:=il.lt hM;have:=S.size;replace S:=S.trans il (fun k hk h=>by have h:_=_:=h;subst h;first|(exfalso;omega)|(show _≤_;omega)|exact⟨by first|omega|assumption,(S.mem _ hk).1 ((il.mem _ (aj gb)).1 dB)⟩|exact .inl rfl|exact .inr rfl|exact .inr (.inl rfl)|exact .inr (.inr rfl)|exact .inr (.inr (.inl rfl))|exact rfl);have Gt:=KK;clear gb;have gb:=Gt;clear Gt;refine ab (ai (ad (ah rfl rfl (ab (aI ?_)))));have ea:lG last e=0:=by unfold lG;rw[if_neg (fun h=>h (by simpa using c2)),if_neg c4]
     exact aO rfl rfl ⟨_,hM,S,by rw[ea],fun h=>absurd ea h,fun _=>⟨mb,_,es,clock,gb,dB,dW,hB,CY,ho,hW,hR.congr (fun k=>(Ji (by omega) k).symm) (fun k=>by rw[BQ,dC,bT (by omega)]),zl'⟩⟩
end Go.K
namespace Go.K
open Go.Proofs
namespace TKBldE
theorem rO:TI Tryz.prog 80 (.slice none 0 0) 1 24:=by unfold TI;kernel_rfl
theorem xE:TI Tryz.prog 151 (.map none) 1 8:=by unfold TI;kernel_rfl
theorem Iy:Enters Tryz.prog 51:=enters Tryz.func51 rfl (by decide)
theorem Vp:Enters Tryz.prog 90:=enters Tryz.func90 rfl (by decide)
theorem Vq:Enters Tryz.prog 91:=enters Tryz.func91 rfl (by decide)
end TKBldE
open TKBldE
set_option maxRecDepth 10000
theorem eE.CC {P:Program} {kt:TypeId} {w:World} {b clock:Nat} {es:List MapEntry} (hk:P.underlying kt=some .string) (h:eE P kt w b es clock):∃ks:List (List UInt8),es.map (·.key)=ks.map sv∧ks.Nodup:=by
 have key:∀es:List MapEntry,(∀e∈es,∃l,keyOf P kt e.key=some l)→∃ks:List (List UInt8),es.map (·.key)=ks.map sv:=by
  intro es
  induction es with
  |nil=>exact fun _=>⟨[],rfl⟩
  |cons e es ih=>
   intro h;obtain⟨ks,h1⟩:=ih fun x hx=>h x (cI _ hx)
   obtain⟨l,hl⟩:=h e (b9 ..);obtain⟨x,h3,_,h4⟩:=Maps.keyOf_str hk hl;exact⟨x::ks,by simp only[eL,h1,h3]⟩
 obtain⟨ks,h1⟩:=key es h.ok;refine⟨ks,h1,?_⟩;have h3:=dg.2 h.keys;rw[h1]at h3;exact(dg.1 h3).imp fun h e=>h (by rw[e])
theorem Ah {M:aD} {w:World}:∀{l:List (List UInt8)},(∀x∈l,x.length≤140737488355328)→eB RT.str M w l (l.map Go.Proofs.encStr)
 |[],_=>rfl
 |x::l,h=>⟨[.string ⟨x.toArray⟩],_,rfl,⟨rfl,h x (b9 ..)⟩,Ah fun y hy=>h y (cI _ hy)⟩
theorem Ha (M:aD) (w:World) (M':aD) (w':World) (x:List UInt8) (vs:List Value) (h:RT.str.R M w x vs):RT.str.R M' w' x vs:=h
theorem rp {L:List En} (hF:∀x∈L,ja x.1):∀k∈ik L,k.length≤43:=fun k hk=>by
 obtain⟨e,he,h1⟩:=List.mem_flatMap.1 hk;obtain⟨t,ht,rfl⟩:=cx.1 h1;have:=(hF e he).term ht;unfold du;simp;omega
theorem qH {L:List En} (hF:∀x∈L,ja x.1):(ik L).length≤500*L.length:=by
 induction L with
 |nil=>simp[ik]
 |cons e L ih=>
  have h1:=ih fun x hx=>hF x (cI _ hx)
  have h2:=wO (hF e (b9 ..));show((cD (pQ e)).map du++ik L).length≤_;rw[bP,de,cq];have h2:(cD (pQ e)).length≤500:=h2;omega
theorem BU {Z M:aD} {B b:Nat} {L:List En} {words last:Int} (w0:World) (hM:Lt M w0) (hb:lF Z M w0 B b L words last) (hF:∀x∈L,ja x.1) (hLn:L.length≤1000000):
  Spec Tryz.prog 41 #[.pointer (some ⟨b,0,none⟩)] w0 (fun v w=>(RT.str.sl).V M w (keysOf L) v∧Step M w0 M w aw):=by
 obtain⟨mb,vl,es,clock,gb,dB,dW,hB,CY,ho,hW,hR,zl⟩:=hb;obtain⟨ks,I8,kL⟩:=hW.CC aF
 have eo:∀x,x∈ks↔x∈ik L:=fun x=>by
  rw[←hR.k x];constructor
  ·intro hx;have:sv x∈es.map (·.key):=by rw[I8];exact fw hx
   obtain⟨e,he,h⟩:=cx.1 this;exact⟨e,he,h⟩
  ·rintro⟨e,he,h⟩;have:sv x∈ks.map sv:=by rw[←I8,←h];exact fw he
   obtain⟨y,hy,h1⟩:=cx.1 this;rw[←yb h1];exact hy
 have Xr:ks.length≤500000000:=by
  have h1:=kL.length_le_of_subset (l₂:=ik L) (fun x hx=>(eo x).1 hx);have h2:=qH hF;omega
 have hen:es.length=ks.length:=by have:=congrArg List.length I8;simpa using this
 refine aR (args:=[_]) (fn:=Tryz.f41) Tryz.func41 rfl (n:=9) Tryz.ntmps41 ?_;have S:Step M w0 M w0 aw:=(al _ _).bN (fun _ h=>h.elim) (fun _ h=>h.elim);refine ai (ad (ah rfl rfl (ab (ai (ad (ae rfl rfl (aC rfl ⟨_,rfl⟩ rfl (aB (o':=1) cE rfl rfl xE (by decide) rfl rfl (az eu rfl rfl rfl gb rfl (br (v':= .map (some mb)) rfl ?_))))))))));refine aJ rfl rfl Vq (sN _ _) (fun r w1 hc=>?_);obtain⟨rfl,Iw⟩:=hc;have s1:Step M w0 M w1 aw:=by rw[Iw];exact cL _ w0 _
 have yy:=kQ Iw;have:=aj gb;replace dB:=(s1.mem _ this).2 dB;replace gb:=s1.aE gb;replace dW:=(s1.mem _ (aj hW.at_)).2 dW;replace hW:=hW.aW s1;replace hM:=s1.lt hM;have:=S.size;replace S:=S.ax s1;obtain⟨m,hO,Rp,qb⟩:=hW.WT aF dW (by unfold maxLen;omega) ks I8;refine aJ rfl rfl Vp (px hO yy (by omega)) (fun r2 w2 hc=>?_);obtain⟨⟨ss,PU,mH,_⟩,s2⟩:=hc;have AR:ss.Perm ks:=PU.trans Rp;have Ud:=List.mergeSort_perm ss fun x y=>decide (x≤y)
 have my:(ss.mergeSort fun x y=>decide (x≤y))=keysOf L:=Nk (D9 (AR.nodup_iff.2 kL)) (pR L) fun x=>by rw[Ud.mem_iff,AR.mem_iff,eo,lE]
 have hlen:ss.length=(keysOf L).length:=by rw[←my,List.length_mergeSort]
 rw[my,hlen]at mH;have Xs:∀x∈keysOf L,x.length≤140737488355328:=fun x hx=>by have:=rp hF x (lE.1 hx);omega
 have qf:Own RT.str 9 (jo r2) w2 w1.heap.size r2 (keysOf L):=⟨⟨_,mH,Ah Xs⟩,fun b hb=>hb⟩;have yB:(RT.str.sl).V M w2 (keysOf L) r2:=qf.tell Ha (fun b hb h=>by have:=(qf.base b hb).1;have:=hM b h;omega) (by have:=AR.length_eq;omega);have:=aj gb;replace dB:=(s2.mem _ this).2 dB;replace gb:=s2.aE gb;replace dW:=(s2.mem _ (aj hW.at_)).2 dW;replace hW:=hW.aW s2;replace hM:=s2.lt hM;have:=S.size;replace S:=S.ax s2;refine ah rfl rfl (ab (aI ?_));exact aO rfl rfl ⟨yB,S⟩
theorem BV {Z M:aD} {B b:Nat} {L:List En} {words last:Int} {k:List UInt8} (w0:World) (hM:Lt M w0) (hb:lF Z M w0 B b L words last) (hF:∀x∈L,ja x.1) (hLn:L.length≤1000000) (Dq:k.length≤140737488355328):
  Spec Tryz.prog 42 #[.pointer (some ⟨b,0,none⟩),sv k] w0 (fun v w=>(RT.po.sl).V M w (pk L k) v∧Step M w0 M w aw):=by
 have lu:=hM;obtain⟨mb,vl,es,clock,gb,dB,dW,hB,CY,ho,hW,hR,zl⟩:=hb;obtain⟨kl,yP⟩:=GS k Dq;obtain⟨sr,Rq⟩:=tQ k L 0 hF;replace sr:(pk L k).length≤L.length:=sr;replace Rq:∀p∈pk L k,_:=Rq;refine aR (args:=[_,_]) (fn:=Tryz.f42) Tryz.func42 rfl (n:=30) Tryz.ntmps42 ?_;have S:Step M w0 M w0 aw:=(al _ _).bN (fun _ h=>h.elim) (fun _ h=>h.elim);refine ai (ad (ah rfl rfl (ab (ai (ad (ah rfl rfl (ab (ai (ai (ad (ae rfl rfl ?_)))))))))));refine aC rfl ⟨_,rfl⟩ rfl (aB (o':=1) cE rfl rfl xE (by decide) rfl rfl (az eu rfl rfl rfl gb rfl (br (v':= .map (some mb)) rfl (ae rfl rfl ?_))));refine Rg.pJ eu pS rO rfl rfl rfl yP hW (fun Xt u1=>?_);have og:=hR.o _ _ u1;have hvb:∀c,Xt.ownBlock=some c→c<w0.heap.size:=fun c hc=>(og.base c hc).2
 clear hR hW ho;refine gN a8 rfl og rfl (ae rfl rfl (ab (a7 ?_)));refine dd (σ:=Nat×Value) (fun q=>[(5,q.2),(13,Xt),(14,.int .i64 ((pk L k).length:Int)),(15,.int .i64 (q.1:Int))]) (fun q w=>∃M',Lt M' w∧Step M w0 M' w aw∧Own RT.po 83 M' w w0.heap.size q.2 ((pk L k).take q.1)∧Own RT.po 83 M' w B Xt (pk L k)∧q.1≤(pk L k).length) (fun q=>(pk L k).length-q.1) (0,.slice none 0 0) (.cons rfl (.cons rfl (.cons rfl (.cons rfl .nil)))) ?_ ?_
 ·exact⟨M,hM,S,eh _ _ _ _ _,og,bG _⟩
 ·clear hM S og;rintro⟨i,u⟩ w ⟨M1,hM,S,hu,og,hi⟩;dsimp only at hu hi ⊢;refine ai (ad (bY rfl rfl rfl (ab (ai ?_))));refine bK rfl (fun c3=>?_) (fun c3=>?_)
  ·refine aT (ai (a7 (ai (ad ?_))));refine Rg.VI a8 ni (by decide) rfl rfl rfl og (by omega) (fun u4 p yA ED=>?_);rw[aG]at yA;have hp:=Rq p (aN yA);refine Rg.Fx (A:=RT.po) bO rfl ni rfl rfl rfl ED (fun v4 pz=>?_);refine rI (A:=RT.po) (M:=M1) ni rfl rfl rfl rfl rfl (by assumption) (aq _ _) hM (fun Qa Qb lv pD Xu=>?_);replace hu:=hu.aW pD;replace og:=og.aW pD;replace hM:=pD.lt hM;have:=S.size;replace S:=S.ax pD;refine ab ?_;apply T.mW 5 [0,1,2] 3 aw mixed rfl rfl rfl rfl;intro wD5 sA5;have Jn:=sA5 M1;replace lv:=lv.le (by decide) Jn.le;replace hu:=hu.aW Jn;replace og:=og.aW Jn;replace hM:=Jn.lt hM;have:=S.size;replace S:=S.ax Jn;refine ae rfl rfl ?_;refine ab ⟨rfl,rfl,rfl,?_⟩;refine aM (M:=M1) (A:=RT.po) (B:=RT.int .i64) bO rfl rfl I3 (by decide) (HV) rfl rfl (by decide) (by assumption) (by repeat (first|exact aq _ _|refine aU (bm (by assumption)) ?_)) (fun Wm Kq=>?_);refine ab ⟨rfl,rfl,rfl,?_⟩;refine cn (M:=M1) an rfl rfl (by assumption) (by repeat (first|exact aq _ _|refine aU (bm (by assumption)) ?_)) (fun Rr=>?_);refine ab ⟨rfl,rfl,rfl,?_⟩;refine aM (M:=M1) (A:=RT.po) (B:=(RT.int .i64).sl) bO rfl rfl lI (by decide) (PB) rfl rfl (by decide) (by assumption) (by repeat (first|exact aq _ _|refine aU (bm (by assumption)) ?_)) (fun V4 CM=>?_);refine ab ⟨rfl,rfl,rfl,?_⟩;refine bZ (M:=M1) ar rfl rfl rfl rfl rfl (by assumption) (by repeat (first|exact aq _ _|refine aU (bm (by assumption)) ?_)) (fun aeL Rs=>?_);refine ab ⟨rfl,rfl,rfl,?_⟩;refine fo ?_;obtain⟨bb,oo,cs,ee,fr,rfl,kB,_⟩:=Kq.float;refine⟨gO ⟨eN,⟨fQ bO rfl I3 (by decide),⟨ey rfl kB (fun h=>h),trivial⟩⟩⟩,?_⟩
   have kp:=iw aw wD5;refine aJ rfl rfl Iy (tR hM Rs (by omega)) (fun v5 w5 hc=>?_);obtain⟨oe,s5⟩:=hc;replace lv:=lv.le (by decide) s5.le;replace hu:=hu.aW s5;replace og:=og.aW s5;replace hM:=s5.lt hM;have:=S.size;replace S:=S.ax s5;refine(fun(kp:ed _ _ _)=>ab ⟨rfl,rfl,fun _=>kp,?_⟩) (by first|exact kp|exact kp.o0 (by assumption)|exact kp.goN (by assumption)|exact kp.go (by assumption) (fun _ _ h=>by first|exact h|exact h.elim));refine dO (places:=[(0,1),(1,1)]) bO ni Tv rfl ⟨_,_,rfl,rfl,_,_,rfl,rfl,rfl⟩ (out:=[_,_]) ⟨0,[_],rfl,rfl,by simp[Value.cells],1,[_],rfl,jc oe,by simp[Value.cells],rfl⟩ ?_;have G4:RT.po.V M1 _ p _:=eA (gu Rr) oe rfl rfl rfl rfl;refine(fun(kp:ed _ _ _)=>ab ⟨rfl,rfl,fun _=>kp,?_⟩) (by first|exact kp|exact kp.o0 (by assumption)|exact kp.goN (by assumption)|exact kp.go (by assumption) (fun _ _ h=>by first|exact h|exact h.elim));refine fa (A:=RT.po) (hn:=by decide) (M:=M1) a8 ni (by decide) rfl rfl hM (G4) (.inl rfl) (fun aeM aeN Hb Eg=>?_);replace lv:=lv.le (by decide) Eg.le;replace oe:=oe.le Eg.le;replace hu:=hu.aW Eg;replace og:=og.aW Eg;replace hM:=Eg.lt hM;have:=S.size;replace S:=S.ax Eg;refine(fun(kp:ed _ _ _)=>ab ⟨rfl,rfl,fun _=>kp,?_⟩) (by first|exact kp|exact kp.o0 (by assumption)|exact kp.goN (by assumption)|exact kp.go (by assumption) (fun _ _ h=>by first|exact h|exact h.elim));refine cQ (M:=M1) (base:=w0.heap.size) a8 ni rfl rfl rfl rfl hu Hb (aq _ _) (by simp;omega) (by simp;omega) (S.size) (fun Xv Xw aeO Rt Eh=>?_);replace lv:=lv.le (by decide) Eh.le;replace oe:=oe.le Eh.le;replace Hb:=Hb.le Eh.le;replace og:=og.step Eh (fun c hc h=>by have:=hvb c hc;have:=(hu.base c h).1;omega);replace hM:=Eh.lt hM;have:=S.size;replace S:=S.dE Eh hu (aZ _);replace hu:=Rt;refine ab ⟨rfl,rfl,fun h=>absurd rfl h,?_⟩
   refine ah rfl rfl ?_;refine ab ⟨rfl,rfl,fun h=>absurd rfl h,?_⟩;refine oC (ad (bA rfl rfl rfl (by omega) (ae rfl rfl (ab ?_))));refine⟨rfl,(i+1,Xv),(.cons rfl (.cons rfl (.cons rfl (.cons rfl .nil)))),?_,?_⟩
   ·exact⟨Xw,hM,S,by rw[cw,yA,dp];exact hu,og,by dsimp only;omega⟩
   ·dsimp only;omega
  ·refine cB (ai (ad (ae rfl rfl (ah rfl rfl (ab (aI ?_))))));rw[bT (by omega)]at hu;exact aO rfl rfl ⟨hu.close lu S (by omega),S.back⟩
end Go.K
namespace Go.K
open Go.Proofs
namespace TKBldF
theorem LQ:TI Tryz.prog 198 (.agg #[(.slice none 0 0),(.slice none 0 0)]) 2 48:=by unfold TI;kernel_rfl
theorem LS:placesOf Tryz.prog 198=[(0,1),(1,1)].map some:=by kernel_rfl
theorem LV:Enters Tryz.prog 198:=enters Tryz.func198 rfl (by decide)
theorem LW:Enters Tryz.prog 199:=enters Tryz.func199 rfl (by decide)
theorem LX:Enters Tryz.prog 200:=enters Tryz.func200 rfl (by decide)
end TKBldF
open TKBldF
set_option maxRecDepth 10000
def Ai:Option (List UInt8)→List (List UInt8)→Bool
 |_,[]=>true
 |o,x::l=>(match o with|none=>true|some a=>decide (a<x))&&Ai (some x) l
theorem tV {l:List (List UInt8)} {k:Nat} {x:List UInt8} (h:l[k]? =some x) (o:Option (List UInt8)):Ai o (l.drop k)=((match o with|none=>true|some a=>decide (a<x))&&Ai (some x) (l.drop (k+1))):=by
 obtain⟨dA,he⟩:=au.1 h;rw[fI dA,he];rfl
theorem Aj {a:List UInt8}:∀{l:List (List UInt8)},ya (a::l)→Ai (some a) l=true
 |[],_=>rfl
 |x::l,h=>by
  have h':=eT.1 h;simp only[Ai,bD,decide_eq_true_eq];exact⟨h'.1 x (b9 ..),Aj h'.2⟩
theorem ND:∀{l:List (List UInt8)},ya l→Ai none l=true
 |[],_=>rfl
 |x::l,h=>by simp only[Ai,dy];exact Aj h
theorem Ei {M:aD} {v:Value} {l:List Int} (w0:World) (hv:((RT.int .i64).sl).V M w0 l v):
  Spec Tryz.prog 143 #[v] w0 (fun v' w'=>v'= .bool (eI (-1) l)∧w'=w0):=by
 have hlen:=eR hv;refine aR (args:=[_]) (fn:=Tryz.f143) Tryz.func143 rfl (n:=28) Tryz.ntmps143 (ai (ad (ah rfl rfl (ab (ai (ai (ad (ae rfl rfl (bM ar rfl hv rfl (ae rfl rfl (ab ?_)))))))))));refine a7 ?_;refine dd (σ:=Nat×Int) (fun s=>[(0,v),(5,v),(6,.int .i64 l.length),(7,.int .i64 s.1)]) (fun s w=>w=w0∧s.1≤l.length∧eI (-1) l=eI s.2 (l.drop s.1)∧ -1≤s.2∧(s.1=0→s.2= -1)∧(0<s.1→l[s.1-1]? =some s.2)) (fun s=>l.length-s.1) (0,-1) (.cons rfl (.cons rfl (.cons rfl (.cons rfl .nil)))) ?_ ?_
 ·exact⟨rfl,bG _,rfl,by decide,fun _=>rfl,fun h=>absurd h (mB 0)⟩
 ·rintro⟨k,last⟩ w1 ⟨rfl,hk,hr,Ru,h0,h1⟩;dsimp only at hk hr Ru h0 h1 ⊢;refine ai (ad (bY rfl rfl rfl (ab (ai ?_))));refine bK rfl (fun c2=>?_) (fun c2=>?_)
  ·refine aT (ai (a7 (ai (ad (ae rfl rfl ?_)))));obtain⟨x,hx⟩:∃x,l[k]? =some x:=⟨_,aK (by omega)⟩;refine dq (M:=M) ar I3 rfl rfl rfl hv (aq _ _) (by omega) (fun u a hg hu=>?_);obtain rfl:x=a:=eQ (bU (hg.symm.trans (by simpa using hx)));refine cn (M:=M) an rfl rfl hu (aq _ _) (fun inx=>?_);refine ah rfl rfl (ah rfl rfl (ab (ai (ad (ae rfl rfl (bY rfl rfl rfl (ae rfl rfl ?_)))))));refine aL (g:=14) rfl (fun Hc=>?_) (fun Hc=>?_)
   ·refine ao rfl rfl rfl rfl (ao rfl rfl rfl rfl (ao rfl rfl rfl rfl (b4 rfl rfl rfl (b4 rfl rfl rfl (b4 rfl rfl rfl (b4 rfl rfl rfl (b4 rfl rfl rfl (b4 rfl rfl rfl (b4 rfl rfl rfl (ao rfl rfl rfl rfl (aP rfl rfl rfl ?_)))))))))));refine ab (kY rfl (ai (ad (ah rfl rfl (ab (aI ?_))))));refine aO rfl rfl ⟨congrArg Value.bool (eQ ?_),rfl⟩;rw[hr,fg hx,decide_eq_false (show¬last<x by omega),gK]
   ·refine ak rfl rfl (ae rfl rfl (ak rfl rfl (nT rfl rfl rfl (ak rfl rfl (ae rfl rfl ?_)))));refine aL (g:=17) rfl (fun MT=>?_) (fun MT=>?_)
    ·refine ak rfl rfl (ae rfl rfl (ak rfl rfl (ae rfl rfl (ak rfl rfl (ae rfl rfl (ak rfl rfl (gj rfl rfl rfl (by omega) (ak rfl rfl ?_))))))));refine dq (M:=M) ar I3 rfl rfl rfl hv (aq _ _) (by omega) (fun u2 a hg rB=>?_);obtain rfl:last=a:=eQ (bU (hg.symm.trans (by rw[show((k:Int)-1).toNat=k-1 from by omega];exact h1 (by omega))));refine ak rfl rfl ?_;refine cn (M:=M) an rfl rfl rB (aq _ _) (fun inl=>?_);refine ak rfl rfl (fc rfl rfl rfl (ak rfl rfl (aP rfl rfl rfl (av rfl rfl rfl (ab ?_)))));refine bK rfl (fun c4=>?_) (fun c4=>?_)
     ·refine ai (ad (ah rfl rfl (ab (aI ?_))));refine aO rfl rfl ⟨congrArg Value.bool (eQ ?_),rfl⟩;rw[hr,fg hx,decide_eq_false (show¬last<x by omega),gK]
     ·refine aT (ad (bA rfl rfl rfl (by omega) (ae rfl rfl (ab ?_))));refine⟨rfl,(k+1,x),(.cons rfl (.cons rfl (.cons rfl (.cons rfl .nil)))),?_,?_⟩
      ·refine⟨rfl,by simp only;omega,?_,by simp only;omega,fun h=>by simp at h,fun _=>by simpa using hx⟩;rw[hr,fg hx,decide_eq_true (show last<x by omega),dy]
      ·simp only;omega
    ·refine ao rfl rfl rfl rfl (ao rfl rfl rfl rfl (ao rfl rfl rfl rfl (ao rfl rfl rfl rfl (ao rfl rfl rfl rfl (ao rfl rfl rfl rfl (ao rfl rfl rfl rfl (ak rfl rfl (av rfl rfl rfl (av rfl rfl rfl (ab (fL rfl ?_)))))))))));refine aT (ad (bA rfl rfl rfl (by omega) (ae rfl rfl (ab ?_))));refine⟨rfl,(k+1,x),(.cons rfl (.cons rfl (.cons rfl (.cons rfl .nil)))),?_,?_⟩
     ·refine⟨rfl,by simp only;omega,?_,by simp only;omega,fun h=>by simp at h,fun _=>by simpa using hx⟩;rw[hr,fg hx,decide_eq_true (show last<x by omega),dy]
     ·simp only;omega
  ·refine cB (ai (ad (ah rfl rfl (ab (aI ?_)))));refine aO rfl rfl ⟨congrArg Value.bool (eQ ?_),rfl⟩;rw[hr,dL (by omega)];rfl
theorem Ak {M:aD} {v:Value} {l:List (List UInt8)} (w0:World) (hv:(RT.str.sl).V M w0 l v):
  Spec Tryz.prog 198 #[v] w0 (fun v' w'=>v'= .bool (Ai none l)∧w'=w0):=by
 have hlen:=eR hv;refine aR (args:=[_]) (fn:=Tryz.f198) Tryz.func198 rfl (n:=24) Tryz.ntmps198 (ai (ad (ah rfl rfl (ab (ai (ai (ad (ae rfl rfl (bM aV rfl hv rfl (ae rfl rfl (ab ?_)))))))))));refine a7 ?_;refine dd (σ:=Nat×Option (List UInt8)) (fun s=>[(0,v),(5,v),(6,.int .i64 l.length),(7,.int .i64 s.1)]) (fun s w=>w=w0∧s.1≤l.length∧Ai none l=Ai s.2 (l.drop s.1)∧(s.1=0→s.2=none)∧(0<s.1→∃a,s.2=some a∧l[s.1-1]? =some a)) (fun s=>l.length-s.1) (0,none) (.cons rfl (.cons rfl (.cons rfl (.cons rfl .nil)))) ?_ ?_
 ·exact⟨rfl,bG _,rfl,fun _=>rfl,fun h=>absurd h (mB 0)⟩
 ·rintro⟨k,o⟩ w1 ⟨rfl,hk,hr,h0,h1⟩;dsimp only at hk hr h0 h1 ⊢;refine ai (ad (bY rfl rfl rfl (ab (ai ?_))));refine bK rfl (fun c2=>?_) (fun c2=>?_)
  ·refine aT (ai (a7 (ai (ad (ae rfl rfl ?_)))));obtain⟨x,hx⟩:∃x,l[k]? =some x:=⟨_,aK (by omega)⟩;refine dq (M:=M) aV I9 rfl rfl rfl hv (aq _ _) (by omega) (fun u a hg hu=>?_);obtain rfl:x=a:=eQ (bU (hg.symm.trans (by simpa using hx)));refine bZ (M:=M) aF rfl rfl rfl rfl rfl hu (aq _ _) (fun vx tz=>?_);obtain rfl:=fH tz;refine ah rfl rfl (ah rfl rfl (ab (ai (ad (ae rfl rfl (nT rfl rfl rfl (ae rfl rfl ?_)))))));refine aL (g:=14) rfl (fun Hc=>?_) (fun Hc=>?_)
   ·refine ak rfl rfl (ae rfl rfl (ak rfl rfl (ae rfl rfl (ak rfl rfl (ae rfl rfl (ak rfl rfl (gj rfl rfl rfl (by omega) (ak rfl rfl ?_))))))));obtain⟨last,rfl,iB⟩:=h1 (by omega);refine dq (M:=M) aV I9 rfl rfl rfl hv (aq _ _) (by omega) (fun u2 a hg rB=>?_);obtain rfl:last=a:=eQ (bU (hg.symm.trans (by rw[show((k:Int)-1).toNat=k-1 from by omega];exact iB)));refine ak rfl rfl ?_;refine bZ (M:=M) aF rfl rfl rfl rfl rfl rB (aq _ _) (fun vl jA=>?_);obtain rfl:=fH jA;refine ak rfl rfl (Rg.Nj rfl rfl rfl (aP rfl rfl rfl (ab ?_)));refine bK rfl (fun c4=>?_) (fun c4=>?_)
    ·refine ai (ad (ah rfl rfl (ab (aI ?_))));refine aO rfl rfl ⟨congrArg Value.bool (eQ ?_),rfl⟩;rw[hr,tV hx];simp[c4]
    ·refine aT (ad (bA rfl rfl rfl (by omega) (ae rfl rfl (ab ?_))));refine⟨rfl,(k+1,some x),(.cons rfl (.cons rfl (.cons rfl (.cons rfl .nil)))),?_,?_⟩
     ·refine⟨rfl,by simp only;omega,?_,fun h=>by simp at h,fun _=>⟨x,rfl,by simpa using hx⟩⟩;rw[hr,tV hx]
      first
      |(rw[h0 (by omega)];simp;done)
      |(have Xx:=fp.1 c4;simp[Xx];done)
     ·simp only;omega
   ·refine ao rfl rfl rfl rfl (ao rfl rfl rfl rfl (ao rfl rfl rfl rfl (ao rfl rfl rfl rfl (ao rfl rfl rfl rfl (ao rfl rfl rfl rfl (ao rfl rfl rfl rfl (av rfl rfl rfl (ab (fL rfl (aT (ad ?_)))))))))));refine bA rfl rfl rfl (by omega) (ae rfl rfl (ab ?_));refine⟨rfl,(k+1,some x),(.cons rfl (.cons rfl (.cons rfl (.cons rfl .nil)))),?_,?_⟩
    ·refine⟨rfl,by simp only;omega,?_,fun h=>by simp at h,fun _=>⟨x,rfl,by simpa using hx⟩⟩;rw[hr,tV hx]
     first
     |(rw[h0 (by omega)];simp;done)
     |(have Xx:=fp.1 c4;simp[Xx];done)
    ·simp only;omega
  ·refine cB (ai (ad (ah rfl rfl (ab (aI ?_)))));refine aO rfl rfl ⟨congrArg Value.bool (eQ ?_),rfl⟩;rw[hr,dL (by omega)];rfl
theorem qI {α:Type} {A:RT α} {M:aD} {w:World} {v:Value} {x:α} (h:cf A M w v x):v.cells= #[v]:=by
 obtain⟨b,o,vs,rfl,_⟩:=h;rfl
theorem BW {M:aD} {v0 v1:Value} {ns:List (List UInt8)} {ts:List Li} (w0:World) (hM:Lt M w0) (hn:(RT.str.sl).V M w0 ns v0) (ht:(((RT.li).ptr).sl).V M w0 ts v1) (hl:ns.length≤1099511627776) (Ie:ts.length≤1099511627776):
  Spec Tryz.prog 147 #[v0,v1] w0 (fun v w=>∃p,v= .tuple #[p,.int .i64 (if ns.length=ts.length∧Ai none ns=true then 0 else 1)]∧(ns.length=ts.length→Ai none ns=true→cf RT.di M w p (ns,ts))∧Step M w0 M w aw):=by
 refine aR (args:=[_,_]) (fn:=Tryz.f147) Tryz.func147 rfl (n:=22) Tryz.ntmps147 ?_;have S:Step M w0 M w0 aw:=(al _ _).bN (fun _ h=>h.elim) (fun _ h=>h.elim);refine ai (ad (ah rfl rfl (ah rfl rfl (ab (ai (ai (ad (ae rfl rfl (bM aV rfl hn rfl (ae rfl rfl (bM cZ rfl ht rfl ?_)))))))))));refine eg rfl rfl rfl (ae rfl rfl ?_);refine aL (g:=11) rfl (fun qz=>?_) (fun qz=>?_)
 ·refine ao rfl rfl rfl rfl (ao rfl rfl rfl rfl (ao rfl rfl rfl rfl (aP rfl rfl rfl (ab (kY rfl (ai (ad (ah rfl rfl (ah rfl rfl (ab (aI ?_)))))))))))
  first
  |exact dX rfl rfl rfl ⟨_,by rw[if_neg (fun h=>qz (by omega))],fun h=>absurd (by omega) qz,S⟩
  |exact dX rfl rfl rfl ⟨_,by rw[if_neg (fun h=>c1 h.2)],fun _ h=>absurd h c1,S⟩
 ·refine ak rfl rfl (ae rfl rfl (ak rfl rfl ?_));refine aJ rfl rfl LV (Ak _ hn) (fun r wc hc=>?_);obtain⟨rfl,rfl⟩:=hc;refine ak rfl rfl (km rfl rfl (br (v':= .bool (decide (¬Ai none ns=true))) (by simp) (av rfl rfl rfl (ab ?_))));refine bK rfl (fun c1=>?_) (fun c1=>?_)
  ·refine ai (ad (ah rfl rfl (ah rfl rfl (ab (aI ?_)))))
   first
   |exact dX rfl rfl rfl ⟨_,by rw[if_neg (fun h=>qz (by omega))],fun h=>absurd (by omega) qz,S⟩
   |exact dX rfl rfl rfl ⟨_,by rw[if_neg (fun h=>c1 h.2)],fun _ h=>absurd h c1,S⟩
  ·refine aT (ai (ad (ae rfl rfl ?_)));refine aJ rfl rfl LW (GH hM hn hl) (fun v3 w3 hc=>?_);obtain⟨uT,s3⟩:=hc;replace hn:=hn.le s3.le;replace ht:=ht.le s3.le;replace hM:=s3.lt hM;have:=S.size;replace S:=S.ax s3;refine ae rfl rfl ?_;refine aJ rfl rfl LX (Je hM ht Ie) (fun v4 w4 hc=>?_);obtain⟨pz,s4⟩:=hc;replace hn:=hn.le s4.le;replace ht:=ht.le s4.le;replace uT:=uT.le s4.le;replace hM:=s4.lt hM;have:=S.size;replace S:=S.ax s4;refine dO (places:=[(0,1),(1,1)]) oB LQ LS rfl ⟨_,_,rfl,rfl,_,_,rfl,rfl,rfl⟩ (out:=[_,_]) ⟨0,[_],rfl,jc uT,by simp[Value.cells],1,[_],rfl,jc pz,by simp[Value.cells],rfl⟩ ?_;refine Rg.ly (A:=RT.di) (a:=(ns,ts)) rfl rfl hM (eA uT pz rfl rfl rfl rfl) rfl (fun u5 w5 FD s5 _=>?_);replace hn:=hn.le s5.le;replace ht:=ht.le s5.le;replace uT:=uT.le s5.le;replace pz:=pz.le s5.le;replace hM:=s5.lt hM;have:=S.size;replace S:=S.ax s5;refine ah rfl rfl (ah rfl rfl (ab (aI ?_)));exact dX rfl rfl rfl ⟨_,by rw[if_pos ⟨by omega,fp.1 c1⟩],fun _ _=>FD,S⟩
end Go.K
namespace Go.K
theorem BX (n:Nat):IntKind.u8.wrap (n:Int)=((UInt8.ofNat n).toNat:Int):=by
 rw[IntKind.wrap_u8];simp[UInt8.toNat_ofNat]
theorem Rv:∀m:Nat,m<256→(BitVec.ofInt 8 (m:Int)|||BitVec.ofInt 8 128).toNat=128+m%128:=by decide+kernel
theorem Jo (n:Nat):IntKind.u8.wrap ((BitVec.ofInt IntKind.u8.bits (IntKind.u8.wrap (n:Int))|||BitVec.ofInt IntKind.u8.bits 128).toNat:Int)=((UInt8.ofNat (128+n%128)).toNat:Int):=by
 have h1:IntKind.u8.wrap (n:Int)=((n%256:Nat):Int):=by rw[IntKind.wrap_u8];omega
 rw[h1];show IntKind.u8.wrap ((BitVec.ofInt 8 ((n%256:Nat):Int)|||BitVec.ofInt 8 128).toNat:Int)=_;rw[Rv (n%256) (by omega),IntKind.wrap_u8,show n%256%128=n%128 from by omega];simp[UInt8.toNat_ofNat]
theorem Xy (n:Nat):((n:Int)).fdiv (2^min (Int.toNat 7) IntKind.i64.bits)=((n/128:Nat):Int):=by
 show((n:Int)).fdiv 128=_;rw[Int.fdiv_eq_ediv_of_nonneg _ (by decide)];rfl
theorem BY:∀m:Nat,m<256→(BitVec.ofInt 8 (m:Int)&&& ~~~ BitVec.ofInt 8 128).toNat=m%128:=by decide+kernel
theorem Al (c:UInt8):IntKind.u8.wrap ((BitVec.ofInt IntKind.u8.bits (c.toNat:Int)&&& ~~~ BitVec.ofInt IntKind.u8.bits 128).toNat:Int)=((c.toNat%128:Nat):Int):=by
 show IntKind.u8.wrap ((BitVec.ofInt 8 (c.toNat:Int)&&& ~~~ BitVec.ofInt 8 128).toNat:Int)=_;rw[BY c.toNat (by have:=c.toNat_lt;omega),IntKind.wrap_u8];omega
theorem Hd (k n x:Nat) (hk:k≤8) (hn:n<128^k) (hx:x<128):
  IntKind.i64.wrap ((BitVec.ofInt IntKind.i64.bits (n:Int)|||BitVec.ofInt IntKind.i64.bits (IntKind.i64.wrap ((x:Int)*2^min (Int.toNat (7*(k:Int))) IntKind.i64.bits))).toNat:Int)=((n+x*128^k:Nat):Int):=by
 have e7:Int.toNat (7*(k:Int))=7*k:=by omega
 have e1:min (7*k) 64=7*k:=by omega
 have e2:(128:Nat)^k=2^(7*k):=by rw[Nat.pow_mul]
 have hp:2^(7*k)≤2^56:=Nat.pow_le_pow_right (by decide) (by omega);have hb:x*2^(7*k)≤127*2^(7*k):=Nat.mul_le_mul_right _ (by omega);rw[e2]at hn ⊢;show IntKind.i64.wrap ((BitVec.ofInt 64 (n:Int)|||BitVec.ofInt 64 (IntKind.i64.wrap ((x:Int)*2^min (Int.toNat (7*(k:Int))) 64))).toNat:Int)=_;rw[e7,e1];have e3:((x:Int)*2^(7*k))=((x*2^(7*k):Nat):Int):=by simp
 have e5:n|||x*2^(7*k)=n+x*2^(7*k):=by
  rw[Nat.or_comm,Nat.mul_comm x,←Nat.two_pow_add_eq_or_of_lt hn x,Nat.add_comm]
 rw[e3];generalize x*2^(7*k)=y at*
 generalize 2^(7*k)=z at*
 have e4:∀m:Nat,m<2^64→(BitVec.ofInt 64 (m:Int))=BitVec.ofNat 64 m:=fun m _=>by simp
 rw[iq (y:Int) (by omega),e4 n (by omega),e4 y (by omega),BitVec.toNat_or,BitVec.toNat_ofNat,BitVec.toNat_ofNat,Nat.mod_eq_of_lt (by omega),Nat.mod_eq_of_lt (by omega),e5,iq _ (by omega)]
theorem oZ (x:Int): -9223372036854775808≤IntKind.i64.wrap x∧IntKind.i64.wrap x≤9223372036854775807:=by rw[IntKind.wrap_i64];omega
end Go.K
namespace Go.K
open Go.Proofs
set_option maxRecDepth 10000
theorem yg {M:aD} {w0:World} {v:Value} {b:List UInt8} {n:Nat} (hM:Lt M w0) (hv:(RT.u8.sl).V M w0 b v) (hb:b.length≤70368744177664) (hn:n≤9223372036854775807):
  Spec Tryz.prog 195 #[v,.int .i64 n] w0 (fun v' w'=>∃M',Step M w0 M' w' aw∧Own RT.u8 5 M' w' w0.heap.size v' (b++put n)):=by
 have h9:=jl hn;refine aR (args:=[_,_]) (fn:=Tryz.f195) Tryz.func195 rfl (n:=26) Tryz.ntmps195 (ai (ad (ah rfl rfl (ab (ai (ad (ae rfl rfl (ae rfl rfl ?_))))))))
 first|refine bM bp rfl (by assumption) rfl ?_|refine gN bp rfl (by assumption) rfl ?_
 refine ae rfl rfl ?_
 first|refine bM bp rfl (by assumption) rfl ?_|refine gN bp rfl (by assumption) rfl ?_
 refine Rg.AW bp I5 rfl rfl rfl rfl hv ⟨rfl,rfl⟩ (fun a u1 yG=>?_);refine ah rfl rfl (ab (ai (a7 ?_)));refine dd (σ:=Nat×Value×List UInt8) (fun s=>[(0,s.2.1),(1,.int .i64 s.1)]) (fun s w=>s.2.2++put s.1=b++put n∧∃M1,Lt M1 w∧Step M w0 M1 w aw∧Grow RT.u8 (by decide) 5 M1 w w0.heap.size s.2.1 s.2.2) (fun s=>s.1) (n,_,b) (.cons rfl (.cons rfl .nil)) ?_ ?_
 ·exact⟨rfl,M,hM,al _ _,.inr ⟨a,rfl,yG,u1⟩⟩
 ·rintro⟨k,u0,acc⟩ w1 ⟨uE,M1,rG,s1,hg⟩;dsimp only at uE hg ⊢;have hlen:=congrArg List.length uE;have AV:=Io k;simp only[bP]at hlen;refine ai (ai (ad (ae rfl rfl (dh rfl rfl rfl (ab ?_)))));refine bK rfl (fun c2=>?_) (fun c2=>?_)
  ·refine aT (a7 (ai (ad (ae rfl rfl (ae rfl rfl (uy an cd rfl rfl (Rg.or rfl rfl rfl (br (congrArg _ (Jo _)) ?_))))))));refine fa (A:=RT.u8) (hn:=by decide) (M:=M1) bp I5 (by decide) rfl rfl rG (K9.2 rfl) (.inr ⟨rfl,rfl⟩) (fun u w2 hu s2=>?_);refine Rg.Cr (M:=M1) (base:=w0.heap.size) bp I5 rfl rfl rfl rfl (hg.le s2) hu (aq _ _) (by simp) (by simp;omega) (by simp;omega) (fS s1.size s2.size) (fun v3 M3 w3 EJ s3=>?_);refine ah rfl rfl (ab (ad (ae rfl rfl (Rg.shr rfl rfl rfl (by omega) (br (congrArg _ (Xy _)) (ah rfl rfl (ab ?_)))))));refine⟨rfl,(k/128,v3,acc++[UInt8.ofNat (128+k%128)]),(.cons rfl (.cons rfl .nil)),?_,?_⟩
   ·exact⟨by rw[←uE,A1 (n:=k) (by omega)];simp,M3,s3.lt (s2.lt rG),(s1.ax s2).jR s3 (aZ _),.inl EJ⟩
   ·show k/128<k;omega
  ·refine cB (ai (ad (ae rfl rfl (ae rfl rfl (uy an cd rfl rfl (br (congrArg _ (BX _)) ?_))))));refine fa (A:=RT.u8) (hn:=by decide) (M:=M1) bp I5 (by decide) rfl rfl rG (K9.2 rfl) (.inr ⟨rfl,rfl⟩) (fun u w2 hu s2=>?_);refine Rg.Cr (M:=M1) (base:=w0.heap.size) bp I5 rfl rfl rfl rfl (hg.le s2) hu (aq _ _) (by simp) (by simp;omega) (by simp;omega) (fS s1.size s2.size) (fun v3 M3 w3 EJ s3=>?_);refine ah rfl rfl (ab (aI ?_));refine aO rfl rfl ⟨M3,(s1.ax s2).jR s3 (aZ _),?_⟩;rw[←uE,sF (n:=k) (by omega)];exact EJ
theorem He {M:aD} {w0:World} {v:Value} {b:List UInt8} {n:Nat} (hM:Lt M w0) (hv:(RT.u8.sl).V M w0 b v) (hb:b.length≤70368744177664) (hn:n≤9223372036854775807):
  Spec Tryz.prog 195 #[v,.int .i64 n] w0 (fun v' w'=>Step M w0 M w' aw∧(RT.u8.sl).V M w' (b++put n) v'):=
 (yg hM hv hb hn).mono fun _ _ ⟨_,s,ho⟩=>⟨s.back,Own.close hM s ho (by have:=jl hn;simp;omega)⟩
theorem Am {M:aD} {w0:World} {v:Value} {b:List UInt8} {at_:Int} (hv:(RT.u8.sl).V M w0 b v) (OY: -9223372036854775808≤at_∧at_≤9223372036854775807):
  Spec Tryz.prog 263 #[v,.int .i64 at_] w0 (fun v' w'=>v'= .tuple #[.int .i64 (get b at_).1,.int .i64 (get b at_).2.1,.int .i64 (get b at_).2.2]∧w0=w'):=by
 have hlen:=eR hv;refine aR (args:=[_,_]) (fn:=Tryz.f263) Tryz.func263 rfl (n:=54) Tryz.ntmps263 (ai (ad (ah rfl rfl (ah rfl rfl (ah rfl rfl (ab (ai (ai (ad (ae rfl rfl (bY rfl rfl rfl ?_)))))))))));refine ae rfl rfl ?_;refine aL (g:=12) rfl (fun fu=>?_) (fun fu=>?_)
 ·obtain NF:at_<0∨(b.length:Int)<at_:= .inl fu;refine ao rfl rfl rfl rfl (ao rfl rfl rfl rfl (ao rfl rfl rfl rfl (ao rfl rfl rfl rfl (aP rfl rfl rfl (ab (kY rfl (ai (ad (ah rfl rfl (ah rfl rfl (ah rfl rfl ?_)))))))))));refine ab (aI ?_);have ga:get b at_=(0,0,1):=by unfold get;rw[if_pos NF]
  exact nX rfl rfl rfl rfl ⟨by rw[ga],rfl⟩
 ·refine ak rfl rfl (ae rfl rfl (ak rfl rfl (ae rfl rfl (ak rfl rfl ?_))))
  first|refine bM bp rfl (by assumption) rfl ?_|refine gN bp rfl (by assumption) rfl ?_
  refine ak rfl rfl (nT rfl rfl rfl (av rfl rfl rfl (ab ?_)));refine bK rfl (fun c1=>?_) (fun c1=>?_)
  ·obtain NF:at_<0∨(b.length:Int)<at_:= .inr c1;refine ai (ad (ah rfl rfl (ah rfl rfl (ah rfl rfl (ab (aI ?_))))));have ga:get b at_=(0,0,1):=by unfold get;rw[if_pos NF]
   exact nX rfl rfl rfl rfl ⟨by rw[ga],rfl⟩
  ·refine aT (ai (ad (ah rfl rfl (ab (ai (ai (ad (ae rfl rfl (ae rfl rfl (ae rfl rfl ?_))))))))))
   first|refine bM bp rfl (by assumption) rfl ?_|refine gN bp rfl (by assumption) rfl ?_
   refine ae rfl rfl (bA rfl rfl rfl (by omega) (Rg.min2 rfl rfl rfl ?_));refine Rg.ER bp I5 rfl rfl rfl rfl hv (by omega) (fun u hu=>?_);rw[show(min (b.length:Int) (at_+9)).toNat=min b.length (at_.toNat+9)from by omega,LG]at hu;have ga:get b at_=match lg ((b.drop at_.toNat).take 9) 0 0 with|some (n,k)=>((n:Int),at_+k,0)|none=>(0,0,2):=by unfold get;rw[if_neg (by omega)];rfl
   have AT:((b.drop at_.toNat).take 9).length≤9:=by rw[bS];omega
   generalize (b.drop at_.toNat).take 9=bs at hu ga AT
   first|refine bM bp rfl (by assumption) rfl ?_|refine gN bp rfl (by assumption) rfl ?_
   refine ae rfl rfl (ab (a7 ?_));refine dd (σ:=Nat×Nat) (fun s=>[(1,.int .i64 at_),(25,u),(26,.int .i64 bs.length),(27,.int .i64 s.1),(7,.int .i64 s.2)]) (fun s w=>w0=w∧s.1≤bs.length∧s.2<128^s.1∧lg (bs.drop s.1) s.1 s.2=lg bs 0 0) (fun s=>bs.length-s.1) (0,0) (.cons rfl (.cons rfl (.cons rfl (.cons rfl (.cons rfl .nil))))) ?_ ?_
   ·exact⟨rfl,bG _,by decide,rfl⟩
   ·rintro⟨k,m⟩ w1 ⟨rfl,hk,hm,hg⟩;dsimp only at hk hm hg ⊢;refine ai (ad (bY rfl rfl rfl (ab (ai ?_))));refine bK rfl (fun c5=>?_) (fun c5=>?_)
    ·refine aT (ai (a7 (ai (ad (ae rfl rfl ?_)))));refine dq (M:=M) bp I5 rfl rfl rfl (by assumption) (by repeat (first|exact aq _ _|refine aU (bm (by assumption)) ?_)) (by omega) (fun aeP Jp An aaR=>?_);refine Rg.Ld (M:=M) cd rfl rfl (by assumption) (by repeat (first|exact aq _ _|refine aU (bm (by assumption)) ?_)) ?_;refine ah rfl rfl (ah rfl rfl (ab (ai (ad (ae rfl rfl (ae rfl rfl (Rg.andNot rfl rfl rfl (br (congrArg _ (Al _)) (Rg.xl cd an rfl rfl (by omega) (ae rfl rfl (Rg.La rfl rfl rfl (by omega) ?_)))))))))));refine Rg.shl rfl rfl rfl (by omega) (Rg.or rfl rfl rfl (br (congrArg _ (Hd k m _ (by omega) hm (by omega))) (ah rfl rfl (ab (ai (ad (ae rfl rfl (bY rfl rfl rfl (ab ?_)))))))));refine bK rfl (fun c8=>?_) (fun c8=>?_)
     ·refine ai (ai (ad (ae rfl rfl (jD rfl rfl rfl (ae rfl rfl ?_)))));refine aL (g:=44) rfl (fun yh=>?_) (fun yh=>?_)
      ·refine ak rfl rfl (ae rfl rfl (ak rfl rfl (nT rfl rfl rfl (aP rfl rfl rfl (ab ?_)))));refine bK rfl (fun c9=>?_) (fun c9=>?_)
       ·refine cB (ai (ad (ah rfl rfl (ah rfl rfl (ah rfl rfl (ab (aI ?_)))))))
        have hr:lg bs 0 0=none:=by
         rw[←hg]
         first
         |(rw[lh (by simpa using An),if_pos (by omega),if_pos (by omega)])
         |(rw[dL (by omega)];rfl)
        exact nX rfl rfl rfl rfl ⟨by rw[ga,hr],rfl⟩
       ·refine aT (ai (ad (ae rfl rfl (ae rfl rfl (ae rfl rfl (bA rfl rfl rfl (by omega) (bA rfl rfl rfl (by omega) (ah rfl rfl (ah rfl rfl (ah rfl rfl (ab ?_)))))))))));refine aI ?_;have hr:lg bs 0 0=some (m+Jp.toNat%128*128^k,k+1):=by rw[←hg,lh (by simpa using An),if_pos (by omega),if_neg (by omega)]
        exact nX rfl rfl rfl rfl ⟨by rw[ga,hr];simp;omega,rfl⟩
      ·refine ao rfl rfl rfl rfl (ao rfl rfl rfl rfl (av rfl rfl rfl (ab (fL rfl (aT (ai (ad (ae rfl rfl (ae rfl rfl (ae rfl rfl (bA rfl rfl rfl (by omega) ?_)))))))))));refine bA rfl rfl rfl (by omega) (ah rfl rfl (ah rfl rfl (ah rfl rfl (ab (aI ?_)))));have hr:lg bs 0 0=some (m+Jp.toNat%128*128^k,k+1):=by rw[←hg,lh (by simpa using An),if_pos (by omega),if_neg (by omega)]
       exact nX rfl rfl rfl rfl ⟨by rw[ga,hr];simp;omega,rfl⟩
     ·refine aT (ad (bA rfl rfl rfl (by omega) (ae rfl rfl (ab ?_))));refine⟨rfl,(k+1,m+Jp.toNat%128*128^k),(.cons rfl (.cons rfl (.cons rfl (.cons rfl (.cons rfl .nil))))),?_,?_⟩
      ·refine⟨rfl,by simp only;omega,?_,?_⟩
       ·have:=Nat.mul_le_mul_right (128^k) (show Jp.toNat%128≤127 from by omega);simp only[Nat.pow_succ];omega
       ·rw[lh (by simpa using An),if_neg (by omega)]at hg;exact hg
      ·simp only;omega
    ·refine cB (ai (ad (ah rfl rfl (ah rfl rfl (ah rfl rfl (ab (aI ?_)))))))
     have hr:lg bs 0 0=none:=by
      rw[←hg]
      first
      |(rw[lh (by simpa using An),if_pos (by omega),if_pos (by omega)])
      |(rw[dL (by omega)];rfl)
     exact nX rfl rfl rfl rfl ⟨by rw[ga,hr],rfl⟩
theorem vf {M:aD} {w0:World} {v u:Value} {b:List UInt8} {l:List Int} (hM:Lt M w0) (hv:(RT.u8.sl).V M w0 b v) (hu:((RT.int .i64).sl).V M w0 l u) (hb:b.length+9*(l.length+1)≤70368744177664):
  Spec Tryz.prog 196 #[v,u] w0 (fun v' w'=>∃M' x,Step M w0 M' w' aw∧v'= .tuple #[x,.int .i64 (if eI (-1) l then 0 else 1)]∧Own RT.u8 5 M' w' w0.heap.size x (if eI (-1) l then b++dI l else[])):=by
 have sr:=jl (n:=l.length) (by omega);refine aR (args:=[_,_]) (fn:=Tryz.f196) Tryz.func196 rfl (n:=31) Tryz.ntmps196 (ai (ad (ah rfl rfl (ah rfl rfl (ab (ai (ad (ae rfl rfl (ae rfl rfl (bM ar rfl hu rfl ?_))))))))));refine aJ rfl rfl LO (yg (M:=M) hM hv (by omega) (by omega)) (fun ub wb AU=>?_);obtain⟨Mb,sb,qW⟩:=AU;refine ah rfl rfl (ab (ai (ad (ah rfl rfl (ab (ai (ai (ad (ae rfl rfl (bM ar rfl hu rfl (ae rfl rfl ?_)))))))))));refine ab (a7 ?_);refine dd (σ:=Nat×Int×Value×List UInt8) (fun s=>[(0,s.2.2.1),(6,.int .i64 s.2.1),(13,u),(14,.int .i64 l.length),(15,.int .i64 s.1)]) (fun s w=>eI (-1) l=eI s.2.1 (l.drop s.1)∧(eI (-1) l=true→s.2.2.2++jF s.2.1 (l.drop s.1)=b++dI l)∧s.1≤l.length∧ -1≤s.2.1∧s.2.2.2.length≤b.length+9*(s.1+1)∧∃M1,Lt M1 w∧Step M w0 M1 w aw∧Own RT.u8 5 M1 w w0.heap.size s.2.2.1 s.2.2.2) (fun s=>l.length-s.1) (0,-1,_,b++put l.length) (.cons rfl (.cons rfl (.cons rfl (.cons rfl (.cons rfl .nil))))) ?_ ?_
 ·exact⟨rfl,fun _=>by simp[dI],bG _,by simp only;omega,by simp;omega,Mb,sb.lt hM,sb,qW⟩
 ·rintro⟨k,last,u0,acc⟩ w1 ⟨hr,uE,hk,Ru,Xz,M1,rG,s1,ho⟩;dsimp only at hr uE hk Ru Xz ho ⊢;refine ai (ad (bY rfl rfl rfl (ab (ai ?_))));refine bK rfl (fun c4=>?_) (fun c4=>?_)
  ·refine aT (ai (a7 (ai (ad ?_))));obtain⟨x,hx⟩:∃x,l[k]? =some x:=⟨_,aK (by omega)⟩;have hxr:=EP hu hx;refine dq (M:=M) ar I3 rfl rfl rfl (hu.le (s1.back).le) (aq _ _) (by omega) (fun Rw Hf Rx C4=>?_);obtain rfl:Hf=x:=bU (Rx.symm.trans (by simpa using hx));refine cn (M:=M) an rfl rfl C4 (aq _ _) (fun _=>?_);refine ah rfl rfl (ab (ai (ai (ad (ae rfl rfl (ae rfl rfl (fc rfl rfl rfl (ab ?_))))))));refine bK rfl (fun c6=>?_) (fun c6=>?_)
   ·refine ai (ad (ah rfl rfl (ah rfl rfl (ab (aI ?_)))));have hrf:eI (-1) l=false:=by rw[hr,fg hx,decide_eq_false (by omega),gK]
    exact dX rfl rfl rfl ⟨M1,_,s1,by rw[hrf];rfl,by rw[hrf];exact eh _ _ _ _ _⟩
   ·refine aT (ai (ad (ae rfl rfl (ae rfl rfl (ae rfl rfl (Rg.Lb rfl rfl rfl (Rg.Lb rfl rfl rfl ?_)))))));have hpx:=jl (n:=(Hf-last-1).toNat) (by omega);refine br (v':= .int .i64 (((Hf-last-1).toNat:Nat):Int)) (by rw[IntKind.wrap_i64,IntKind.wrap_i64];congr 1;omega) ?_;have hfz:=s1.freeze (v:=u0) (fun b hb=>(ho.base b hb).1);refine aJ rfl rfl LO (yg (M:=rm M1 u0) (rG.rm u0) (ho.view (by omega)) (by omega) (by omega)) (fun ub wb AU=>?_);obtain⟨Mb2,sb2,XA⟩:=AU;refine ah rfl rfl (ab (ad (ae rfl rfl (ah rfl rfl (ab (ad (bA rfl rfl rfl (by omega) (ae rfl rfl (ab ?_)))))))));refine⟨rfl,(k+1,Hf,ub,acc++put (Hf-last-1).toNat),(.cons rfl (.cons rfl (.cons rfl (.cons rfl (.cons rfl .nil))))),?_,?_⟩
    ·refine⟨?_,fun h=>?_,by simp only;omega,by simp only;omega,by simp only[bP];omega,Mb2,sb2.lt (rG.rm u0),hfz.ax sb2,XA.sh s1.size⟩
     ·rw[hr,fg hx,decide_eq_true (by omega),dy]
     ·rw[←uE h,Dy hx];simp
    ·simp only;omega
  ·refine cB (ai (ad (ae rfl rfl (ah rfl rfl (ah rfl rfl (ab (aI ?_)))))));have XB:eI (-1) l=true:=by rw[hr,dL (by omega)];rfl
   have ha:=uE XB;rw[dL (by omega),jF,List.append_nil]at ha;exact dX rfl rfl rfl ⟨M1,_,s1,by rw[XB];rfl,by rw[XB,←ha];exact ho⟩
theorem tW {M:aD} {w0:World} {v u:Value} {b:List UInt8} {l:List Int} (hM:Lt M w0) (hv:(RT.u8.sl).V M w0 b v) (hu:((RT.int .i64).sl).V M w0 l u) (hb:b.length+9*(l.length+1)≤70368744177664):
  Spec Tryz.prog 196 #[v,u] w0 (fun v' w'=>∃x,Step M w0 M w' aw∧v'= .tuple #[x,.int .i64 (if eI (-1) l then 0 else 1)]∧(RT.u8.sl).V M w' (if eI (-1) l then b++dI l else[]) x):=
 (vf hM hv hu hb).mono fun _ _ ⟨_,x,s,h,ho⟩=>⟨x,s.back,h,Own.close hM s ho (by
  split
  next hr=>
   have sr:=jl (n:=l.length) (by omega);have k7:∀x∈l,x≤9223372036854775807:=fun x hx=>by obtain⟨i,hi⟩:=bR.1 hx;exact(EP hu hi).2
   have:=sG l (-1) (by decide) k7 hr;simp only[dI,bP];omega
  next=>simp)⟩
theorem wT {M:aD} {w0:World} {be bb ba:Nat} {v:Value} {b:List UInt8} {at_:Int} (he:w0.heap[be]? =some (.cells #[.int .i64 0] 26 (0,0))) (hb:w0.heap[bb]? =some (.cells #[v] 204 (0,0))) (ha:w0.heap[ba]? =some (.cells #[.int .i64 at_] 3 (0,0))) (eD:be≠ba) (NG:M be) (OZ:M ba) (hv:(RT.u8.sl).V M w0 b v) (OY: -9223372036854775808≤at_∧at_≤9223372036854775807):
  Spec Tryz.prog 287 #[.pointer (some ⟨be,0,none⟩),.pointer (some ⟨bb,0,none⟩),.pointer (some ⟨ba,0,none⟩)] w0 (fun v' w'=>v'= .int .i64 (get b at_).1∧w'.heap[be]? =some (.cells #[.int .i64 (get b at_).2.2] 26 (0,0))∧w'.heap[ba]? =some (.cells #[.int .i64 (get b at_).2.1] 3 (0,0))∧Step M w0 M w' (fun k=>k=be∨k=ba)):=by
 refine aR (args:=[_,_,_]) (fn:=Tryz.f287) Tryz.func287 rfl (n:=15) Tryz.ntmps287 (ai (ad (ah rfl rfl (ab (ai (ai (ad (az qS rfl rfl rfl (by assumption) rfl (eg rfl rfl rfl (ab ?_))))))))));refine bK rfl (fun c1=>?_) (fun c1=>?_)
 ·exact absurd rfl c1
 ·refine aT (ai (ad (ah rfl rfl (ab (ai (ad (az bp rfl rfl rfl (by assumption) rfl (az an rfl rfl rfl (by assumption) rfl ?_))))))));refine aJ rfl rfl PQ (Am hv OY) (fun r w1 h1=>?_);obtain⟨rfl,rfl⟩:=h1;refine ae rfl rfl (bu rfl rfl rfl (bu rfl rfl rfl (bu rfl rfl rfl (ah rfl rfl ?_))));refine bL (M:=M) I3 rfl rfl ha rfl rfl OZ (fun w1 h1 s1=>?_);refine bL (M:=M) Tt rfl rfl (s1.bB he eD) rfl rfl NG (fun w2 h2 s2=>?_);refine ab (ai (ad (ae rfl rfl (ah rfl rfl (ab (aI ?_))))));refine aO rfl rfl ⟨rfl,h2,s2.bB h1 (Ne.symm eD),?_⟩;exact(s1.bN (fun b hb=> .inr hb) (fun b hb=>by rcases hb with rfl|rfl<;>assumption)).trans s2 (fun b _ hb=> .inl hb)
theorem tX {M:aD} {w0:World} {v:Value} {b:List UInt8} {at_:Int} (hM:Lt M w0) (hv:(RT.u8.sl).V M w0 b v) (OY: -9223372036854775808≤at_∧at_≤9223372036854775807) (AT:b.length≤1099511627776):
  Spec Tryz.prog 264 #[v,.int .i64 at_] w0 (fun v' w'=>∃x,v'= .tuple #[x,.int .i64 (fx b at_).2.2,.int .i64 (fx b at_).1]∧((RT.int .i64).sl).V M w' (fx b at_).2.1 x∧Step M w0 M w' aw):=by
 refine aR (args:=[_,_]) (fn:=Tryz.f264) Tryz.func264 rfl (n:=48) Tryz.ntmps264 (ai (ad ?_));refine iJ M rfl rfl (fun bb w1 yy aeR hB s1=>?_);rw[jc hv]at hB;refine iJ (ins M bb) rfl rfl (fun ba w2 hba aeS hA s2=>?_);refine ah rfl rfl (ah rfl rfl (ah rfl rfl (ab (ai (ad ?_)))));refine ew (ins (ins M bb) ba) Tt rfl (fun be w3 hbe aeT hE s3=>?_);refine bL (M:=ins (ins (ins M bb) ba) be) Tt rfl rfl hE rfl rfl (.inl rfl) (fun w4 hE4 s4=>?_);have z1:=s1.size;have z2:=s2.size;have z3:=s3.size;have z4:=s4.size;have S4:Step M w0 (ins (ins (ins M bb) ba) be) w4 aw:=((s1.ax s2).ax s3).cO s4 (fun k hk=>by subst hk;omega);have TU:=s4.bB (s3.aE (s2.aE hB)) (show bb≠be by omega);have hA4:=s4.bB (s3.aE hA) (show ba≠be by omega);refine ab (ai (ad (gG (xs:=[]) rfl rfl rfl (ah rfl rfl (ab (ai (ad (ah rfl rfl (ab (ai (ad ?_)))))))))));refine ah rfl rfl (ab (ai (ai (ad (ae rfl rfl ?_)))));refine Rg.nY (first:=[]) (xs:=[]) rfl rfl rfl PR (wT (M:=ins (ins (ins M bb) ba) be) hE4 TU hA4 (by omega) (.inl rfl) (.inr (.inl rfl)) (hv.le S4.le) OY) (fun r w5 h5=>?_);obtain⟨rfl,hE5,hA5,s5⟩:=h5;have z5:=s5.size;have S5:=S4.cO s5 (fun k hk=>by omega);have hB5:=s5.bB TU (by omega);obtain⟨XC,hn1,hn2,hn3⟩:=lR b at_;refine br (v':= .int .i64 (((get b at_).1.toNat:Nat):Int)) (by rw[uv XC]) (ah rfl rfl (ab (a7 ?_)));refine dd (σ:=Nat×Int×Value×List Int×Int×Int) (fun s=>[(7,.pointer (some ⟨be,0,none⟩)),(3,.pointer (some ⟨ba,0,none⟩)),(8,.func (.func 287) [].toArray [.pointer (some ⟨be,0,none⟩),.pointer (some ⟨bb,0,none⟩),.pointer (some ⟨ba,0,none⟩)].toArray),(9,s.2.2.1),(10,.int .i64 s.2.1),(11,.int .i64 s.1)]) (fun s w=>(s.1:Int)≤9223372036854775807∧(s.2.2.2.2.1=0→fx b at_=andThen s.2.2.2.1 (fU b s.1 s.2.2.2.2.2 s.2.1))∧(s.2.2.2.2.1≠0→fx b at_=(s.2.2.2.2.1,[],0))∧(s.2.2.2.2.1=0→ -1≤s.2.1∧s.2.1≤4611686018427387904∧(s.2.2.2.1.length:Int)≤s.2.2.2.2.2∧s.2.2.2.2.2≤b.length)∧s.2.2.2.1.length≤b.length+1∧∃M1,Lt M1 w∧Step M w0 M1 w aw∧w4.heap.size≤w.heap.size∧M1 be∧M1 ba∧Own (RT.int .i64) 3 M1 w w4.heap.size s.2.2.1 s.2.2.2.1∧w.heap[be]? =some (.cells #[.int .i64 s.2.2.2.2.1] 26 (0,0))∧w.heap[ba]? =some (.cells #[.int .i64 s.2.2.2.2.2] 3 (0,0))∧w.heap[bb]? =some (.cells #[v] 204 (0,0))) (fun s=>s.1) ((get b at_).1.toNat,-1,_,[],(get b at_).2.2,(get b at_).2.1) (.cons rfl (.cons rfl (.cons rfl (.cons rfl (.cons rfl (.cons rfl .nil)))))) ?_ ?_
 ·refine⟨by have:=vK b at_;simp only;omega,fun h=>?_,fun h=>?_,fun h=>?_,by simp,_,S5.lt hM,S5,z5,.inl rfl,.inr (.inl rfl),eh _ _ _ _ _,hE5,hA5,hB5⟩
  ·unfold fx;rw[if_neg (by simpa using h)];exact(yS _ (Dz b _ _ _)).symm
  ·unfold fx;rw[if_pos h]
  ·have:=ql h;simp only[ib];omega
 ·rintro⟨many,last,u0,acc,e,a1⟩ wl ⟨hmb,KL,OI,fY,Xz,M1,rG,S,zl,NG,OZ,ho,hE,hA,hB⟩;dsimp only at hmb KL OI fY Xz ho hE hA hB ⊢;refine ai (ai (ad (ae rfl rfl (nT rfl rfl rfl (ae rfl rfl ?_)))));refine aL (g:=18) rfl (fun Mj=>?_) (fun Mj=>?_)
  ·refine ak rfl rfl (az qS rfl rfl rfl (by assumption) rfl (ak rfl rfl (jD rfl rfl rfl (aP rfl rfl rfl (ab ?_)))));refine bK rfl (fun c6=>?_) (fun c6=>?_)
   ·refine aT (ai (a7 (ai (ad (ae rfl rfl ?_)))));refine Rg.nY (first:=[]) (xs:=[]) rfl rfl rfl PR (wT (M:=M1) (by rw[c6]at hE;exact hE) hB hA (by omega) NG OZ (hv.le S.le) (by have:=fY c6;omega)) (fun r w6 h6=>?_);obtain⟨rfl,Ry,Rz,s6⟩:=h6;have z6:=s6.size;have S6:=S.cO s6 (fun k hk=>by omega);have RA:=s6.bB hB (by omega);have wG:=ho.step s6 (fun k hk h=>by have:=(ho.base k hk).1;omega);have Hg:=s6.lt rG;obtain⟨XC,hn1,hn2,hn3⟩:=lR b a1;obtain⟨pZ,Dp,hk3,hk4⟩:=fY c6;refine ah rfl rfl (ab (ai (ai (ad (az qS rfl rfl rfl (by assumption) rfl (jD rfl rfl rfl (ae rfl rfl ?_)))))));refine aL (g:=28) rfl (fun yh=>?_) (fun yh=>?_)
    ·refine ak rfl rfl (ae rfl rfl (ak rfl rfl (ae rfl rfl (ak rfl rfl (gj rfl rfl rfl (by omega) (ak rfl rfl (gj rfl rfl rfl (by omega) (ak rfl rfl (nT rfl rfl rfl (aP rfl rfl rfl (ab ?_)))))))))));refine bK rfl (fun c9=>?_) (fun c9=>?_)
     ·refine ad ?_;refine bL (M:=M1) Tt rfl rfl Ry rfl rfl NG (fun w7 hE7 s7=>?_);have z7:=s7.size;replace S6:=S6.cO s7 (fun k hk=>by subst hk;omega);replace RA:=s7.bB RA (show bb≠be by omega);replace Rz:=s7.bB Rz (show ba≠be by omega);replace wG:=wG.step s7 (fun k hk h=>by have:=(ho.base k hk).1;omega);replace Hg:=s7.lt Hg;replace Ry:=hE7;refine ab (ai (ad (ae rfl rfl (ae rfl rfl (Rg.xk rfl rfl rfl (Rg.xk rfl rfl rfl (ah rfl rfl (ab (ad (ae rfl rfl (ae rfl rfl ?_)))))))))));refine fa (A:=RT.int .i64) (hn:=by decide) (M:=M1) ar I3 (by decide) rfl rfl Hg (gu (oZ _)) (.inr ⟨rfl,rfl⟩) (fun u w8 hu s8=>?_);refine cQ (M:=M1) (base:=w4.heap.size) ar I3 rfl rfl rfl rfl (wG.aW s8) hu (aq _ _) (by simp;omega) (by simp;omega) (by have:=s8.size;omega) (fun v9 M9 w9 RB s9=>?_);have z8:=s8.size;have z9:=s9.size;have kx:∀k,k<w4.heap.size→¬jw u0 k:=fun k hk h=>by have:=(ho.base k h).1;omega
      have Hh:=s9.bB (s8.aE Ry) (kx be (by omega));have RC:=s9.bB (s8.aE Rz) (kx ba (by omega));have RD:=s9.bB (s8.aE RA) (kx bb (by omega));have S9:=(S6.ax s8).dE s9 (wG.aW s8) (by omega);have RE:=s9.lt (s8.lt Hg);have Hi:M9 be:=(s9.mem be (by omega)).2 NG;have Hj:M9 ba:=(s9.mem ba (by omega)).2 OZ;refine ah rfl rfl (ab (ad (ae rfl rfl (gj rfl rfl rfl (by omega) (ah rfl rfl (ab ?_))))));refine⟨rfl,(many-1,(IntKind.i64.wrap (last+IntKind.i64.wrap ((get b a1).1+1))),v9,acc++[(IntKind.i64.wrap (last+IntKind.i64.wrap ((get b a1).1+1)))],(if(get b a1).2.2=0∧4611686018427387904-last-1<(get b a1).1 then 2 else(get b a1).2.2),(get b a1).2.1),(.cons rfl (.cons rfl (.cons rfl (.cons rfl (.cons rfl (.cons (show some (Value.int .i64 ((many:Int)-1))=some (Value.int .i64 ((many-1:Nat):Int))from by congr 2;omega) .nil)))))),?_,?_⟩
      ·have hx:(get b a1).2.2=0→¬4611686018427387904-last-1<(get b a1).1→(IntKind.i64.wrap (last+IntKind.i64.wrap ((get b a1).1+1)))=last+1+(get b a1).1:=fun h1 h2=>by rw[iq ((get b a1).1+1) (by omega),iq _ (by omega)];omega
       have OD:many=(many-1)+1:=by omega
       have tY:=KL c6;rw[OD]at tY;refine⟨by simp only;omega,fun h=>?_,fun h=>?_,fun h=>?_,by have:=fY c6;simp only[bP,cq,ib];omega,M9,RE,S9,by omega,Hi,Hj,RB,?_,RC,RD⟩
       ·dsimp only at h ⊢;have h3:(get b a1).2.2=0∧¬4611686018427387904-last-1<(get b a1).1:=by split at h<;>omega
        rw[tY,lQ acc h3.1 h3.2,hx h3.1 h3.2]
       ·dsimp only at h ⊢;rw[tY]
        split
        ·rename_i h4;rw[qm h4.1 h4.2];rfl
        ·rename_i h4
         have h5:(get b a1).2.2≠0:=by intro h6;rw[if_neg h4]at h;exact h h6
         rw[oL h5];unfold andThen;rw[if_pos h5]
       ·dsimp only at h ⊢;have h3:(get b a1).2.2=0∧¬4611686018427387904-last-1<(get b a1).1:=by split at h<;>omega
        have:=ql h3.1;rw[hx h3.1 h3.2];simp only[bP,cq,ib];omega
       ·dsimp only
        first
        |(rw[if_pos ⟨yh,c9⟩];exact Hh)
        |(rw[if_neg (fun h=>c9 h.2)];exact Hh)
        |(rw[if_neg (fun h=>yh h.1)];exact Hh)
      ·simp only;omega
     ·refine aT (ai (ad (ae rfl rfl (ae rfl rfl (Rg.xk rfl rfl rfl (Rg.xk rfl rfl rfl (ah rfl rfl (ab (ad (ae rfl rfl (ae rfl rfl ?_)))))))))));refine fa (A:=RT.int .i64) (hn:=by decide) (M:=M1) ar I3 (by decide) rfl rfl Hg (gu (oZ _)) (.inr ⟨rfl,rfl⟩) (fun u w8 hu s8=>?_);refine cQ (M:=M1) (base:=w4.heap.size) ar I3 rfl rfl rfl rfl (wG.aW s8) hu (aq _ _) (by simp;omega) (by simp;omega) (by have:=s8.size;omega) (fun v9 M9 w9 RB s9=>?_);have z8:=s8.size;have z9:=s9.size;have kx:∀k,k<w4.heap.size→¬jw u0 k:=fun k hk h=>by have:=(ho.base k h).1;omega
      have Hh:=s9.bB (s8.aE Ry) (kx be (by omega));have RC:=s9.bB (s8.aE Rz) (kx ba (by omega));have RD:=s9.bB (s8.aE RA) (kx bb (by omega));have S9:=(S6.ax s8).dE s9 (wG.aW s8) (by omega);have RE:=s9.lt (s8.lt Hg);have Hi:M9 be:=(s9.mem be (by omega)).2 NG;have Hj:M9 ba:=(s9.mem ba (by omega)).2 OZ;refine ah rfl rfl (ab (ad (ae rfl rfl (gj rfl rfl rfl (by omega) (ah rfl rfl (ab ?_))))));refine⟨rfl,(many-1,(IntKind.i64.wrap (last+IntKind.i64.wrap ((get b a1).1+1))),v9,acc++[(IntKind.i64.wrap (last+IntKind.i64.wrap ((get b a1).1+1)))],(if(get b a1).2.2=0∧4611686018427387904-last-1<(get b a1).1 then 2 else(get b a1).2.2),(get b a1).2.1),(.cons rfl (.cons rfl (.cons rfl (.cons rfl (.cons rfl (.cons (show some (Value.int .i64 ((many:Int)-1))=some (Value.int .i64 ((many-1:Nat):Int))from by congr 2;omega) .nil)))))),?_,?_⟩
      ·have hx:(get b a1).2.2=0→¬4611686018427387904-last-1<(get b a1).1→(IntKind.i64.wrap (last+IntKind.i64.wrap ((get b a1).1+1)))=last+1+(get b a1).1:=fun h1 h2=>by rw[iq ((get b a1).1+1) (by omega),iq _ (by omega)];omega
       have OD:many=(many-1)+1:=by omega
       have tY:=KL c6;rw[OD]at tY;refine⟨by simp only;omega,fun h=>?_,fun h=>?_,fun h=>?_,by have:=fY c6;simp only[bP,cq,ib];omega,M9,RE,S9,by omega,Hi,Hj,RB,?_,RC,RD⟩
       ·dsimp only at h ⊢;have h3:(get b a1).2.2=0∧¬4611686018427387904-last-1<(get b a1).1:=by split at h<;>omega
        rw[tY,lQ acc h3.1 h3.2,hx h3.1 h3.2]
       ·dsimp only at h ⊢;rw[tY]
        split
        ·rename_i h4;rw[qm h4.1 h4.2];rfl
        ·rename_i h4
         have h5:(get b a1).2.2≠0:=by intro h6;rw[if_neg h4]at h;exact h h6
         rw[oL h5];unfold andThen;rw[if_pos h5]
       ·dsimp only at h ⊢;have h3:(get b a1).2.2=0∧¬4611686018427387904-last-1<(get b a1).1:=by split at h<;>omega
        have:=ql h3.1;rw[hx h3.1 h3.2];simp only[bP,cq,ib];omega
       ·dsimp only
        first
        |(rw[if_pos ⟨yh,c9⟩];exact Hh)
        |(rw[if_neg (fun h=>c9 h.2)];exact Hh)
        |(rw[if_neg (fun h=>yh h.1)];exact Hh)
      ·simp only;omega
    ·refine ao rfl rfl rfl rfl (ao rfl rfl rfl rfl (ao rfl rfl rfl rfl (ao rfl rfl rfl rfl (ao rfl rfl rfl rfl (av rfl rfl rfl (ab (fL rfl (aT (ai (ad (ae rfl rfl ?_)))))))))));refine ae rfl rfl (Rg.xk rfl rfl rfl (Rg.xk rfl rfl rfl (ah rfl rfl (ab (ad (ae rfl rfl (ae rfl rfl ?_)))))));refine fa (A:=RT.int .i64) (hn:=by decide) (M:=M1) ar I3 (by decide) rfl rfl Hg (gu (oZ _)) (.inr ⟨rfl,rfl⟩) (fun u w8 hu s8=>?_);refine cQ (M:=M1) (base:=w4.heap.size) ar I3 rfl rfl rfl rfl (wG.aW s8) hu (aq _ _) (by simp;omega) (by simp;omega) (by have:=s8.size;omega) (fun v9 M9 w9 RB s9=>?_);have z8:=s8.size;have z9:=s9.size;have kx:∀k,k<w4.heap.size→¬jw u0 k:=fun k hk h=>by have:=(ho.base k h).1;omega
     have Hh:=s9.bB (s8.aE Ry) (kx be (by omega));have RC:=s9.bB (s8.aE Rz) (kx ba (by omega));have RD:=s9.bB (s8.aE RA) (kx bb (by omega));have S9:=(S6.ax s8).dE s9 (wG.aW s8) (by omega);have RE:=s9.lt (s8.lt Hg);have Hi:M9 be:=(s9.mem be (by omega)).2 NG;have Hj:M9 ba:=(s9.mem ba (by omega)).2 OZ;refine ah rfl rfl (ab (ad (ae rfl rfl (gj rfl rfl rfl (by omega) (ah rfl rfl (ab ?_))))));refine⟨rfl,(many-1,(IntKind.i64.wrap (last+IntKind.i64.wrap ((get b a1).1+1))),v9,acc++[(IntKind.i64.wrap (last+IntKind.i64.wrap ((get b a1).1+1)))],(if(get b a1).2.2=0∧4611686018427387904-last-1<(get b a1).1 then 2 else(get b a1).2.2),(get b a1).2.1),(.cons rfl (.cons rfl (.cons rfl (.cons rfl (.cons rfl (.cons (show some (Value.int .i64 ((many:Int)-1))=some (Value.int .i64 ((many-1:Nat):Int))from by congr 2;omega) .nil)))))),?_,?_⟩
     ·have hx:(get b a1).2.2=0→¬4611686018427387904-last-1<(get b a1).1→(IntKind.i64.wrap (last+IntKind.i64.wrap ((get b a1).1+1)))=last+1+(get b a1).1:=fun h1 h2=>by rw[iq ((get b a1).1+1) (by omega),iq _ (by omega)];omega
      have OD:many=(many-1)+1:=by omega
      have tY:=KL c6;rw[OD]at tY;refine⟨by simp only;omega,fun h=>?_,fun h=>?_,fun h=>?_,by have:=fY c6;simp only[bP,cq,ib];omega,M9,RE,S9,by omega,Hi,Hj,RB,?_,RC,RD⟩
      ·dsimp only at h ⊢;have h3:(get b a1).2.2=0∧¬4611686018427387904-last-1<(get b a1).1:=by split at h<;>omega
       rw[tY,lQ acc h3.1 h3.2,hx h3.1 h3.2]
      ·dsimp only at h ⊢;rw[tY]
       split
       ·rename_i h4;rw[qm h4.1 h4.2];rfl
       ·rename_i h4
        have h5:(get b a1).2.2≠0:=by intro h6;rw[if_neg h4]at h;exact h h6
        rw[oL h5];unfold andThen;rw[if_pos h5]
      ·dsimp only at h ⊢;have h3:(get b a1).2.2=0∧¬4611686018427387904-last-1<(get b a1).1:=by split at h<;>omega
       have:=ql h3.1;rw[hx h3.1 h3.2];simp only[bP,cq,ib];omega
      ·dsimp only
       first
       |(rw[if_pos ⟨yh,c9⟩];exact Hh)
       |(rw[if_neg (fun h=>c9 h.2)];exact Hh)
       |(rw[if_neg (fun h=>yh h.1)];exact Hh)
     ·simp only;omega
   ·refine cB (ai (ai (ad (az qS rfl rfl rfl (by assumption) rfl (eg rfl rfl rfl (ab ?_))))));refine bK rfl (fun F6=>?_) (fun F6=>?_)
    ·refine ai ?_;apply T.kO mixed rfl rfl;intro Nz G7;have nW:=G7 M1;refine az qS rfl rfl rfl (by first|assumption|exact bQ nW (by assumption)) rfl ?_;refine ab ⟨rfl,rfl,rfl,?_⟩;refine ah rfl rfl ?_;refine ab ⟨rfl,rfl,rfl,?_⟩;refine ah rfl rfl ?_;refine ab ⟨rfl,rfl,rfl,?_⟩;refine ah rfl rfl ?_;refine ab ⟨rfl,rfl,rfl,?_⟩;refine fo (aI ?_);have hr:=OI F6;exact nX rfl rfl rfl rfl ⟨_,by rw[hr]<;>rfl,by rw[hr];exact fZ,(S.ax nW).back⟩
    ·refine aT (ai ?_);apply T.kO mixed rfl rfl;intro NH Hk;have mI:=Hk M1;refine ae rfl rfl ?_;refine ab ⟨rfl,rfl,rfl,?_⟩;refine az an rfl rfl rfl (by first|assumption|exact bQ mI (by assumption)) rfl ?_;refine ab ⟨rfl,rfl,rfl,?_⟩;refine ah rfl rfl ?_;refine ab ⟨rfl,rfl,rfl,?_⟩;refine ah rfl rfl ?_;refine ab ⟨rfl,rfl,rfl,?_⟩;refine ah rfl rfl ?_;refine ab ⟨rfl,rfl,rfl,?_⟩;refine fo (aI ?_);have hz:many=0:=by omega
     have hr:=KL (by omega);rw[hz,sH]at hr;simp only[andThen,ne_eq,not_true_eq_false,if_false,List.append_nil]at hr;have RF:=S.ax mI;refine nX rfl rfl rfl rfl ⟨_,by rw[hr]<;>rfl,?_,RF.back⟩;rw[hr];exact Own.close hM RF ((ho.aW mI).sh (by omega)) (by simp only;omega)
  ·refine ao rfl rfl rfl rfl (ao rfl rfl rfl rfl (av rfl rfl rfl (ab (fL rfl (cB (ai (ai (ad (az qS rfl rfl rfl (by assumption) rfl (eg rfl rfl rfl (ab ?_)))))))))));refine bK rfl (fun F6=>?_) (fun F6=>?_)
   ·refine ai ?_;apply T.kO mixed rfl rfl;intro Nz G7;have nW:=G7 M1;refine az qS rfl rfl rfl (by first|assumption|exact bQ nW (by assumption)) rfl ?_;refine ab ⟨rfl,rfl,rfl,?_⟩;refine ah rfl rfl ?_;refine ab ⟨rfl,rfl,rfl,?_⟩;refine ah rfl rfl ?_;refine ab ⟨rfl,rfl,rfl,?_⟩;refine ah rfl rfl ?_;refine ab ⟨rfl,rfl,rfl,?_⟩;refine fo (aI ?_);have hr:=OI F6;exact nX rfl rfl rfl rfl ⟨_,by rw[hr]<;>rfl,by rw[hr];exact fZ,(S.ax nW).back⟩
   ·refine aT (ai ?_);apply T.kO mixed rfl rfl;intro NH Hk;have mI:=Hk M1;refine ae rfl rfl ?_;refine ab ⟨rfl,rfl,rfl,?_⟩;refine az an rfl rfl rfl (by first|assumption|exact bQ mI (by assumption)) rfl ?_;refine ab ⟨rfl,rfl,rfl,?_⟩;refine ah rfl rfl ?_;refine ab ⟨rfl,rfl,rfl,?_⟩;refine ah rfl rfl ?_;refine ab ⟨rfl,rfl,rfl,?_⟩;refine ah rfl rfl ?_;refine ab ⟨rfl,rfl,rfl,?_⟩;refine fo (aI ?_);have hz:many=0:=by omega
    have hr:=KL (by omega);rw[hz,sH]at hr;simp only[andThen,ne_eq,not_true_eq_false,if_false,List.append_nil]at hr;have RF:=S.ax mI;refine nX rfl rfl rfl rfl ⟨_,by rw[hr]<;>rfl,?_,RF.back⟩;rw[hr];exact Own.close hM RF ((ho.aW mI).sh (by omega)) (by simp only;omega)
end Go.K
namespace Go.K
open Go.Proofs
set_option maxRecDepth 10000
theorem C5 {M:aD} {w0:World} {v:Value} {x:Li} (hv:cf RT.li M w0 v x) {k:Int}:
  Spec Tryz.prog 222 #[v,.int .i64 k] w0 (fun v' w'=>v'= .bool (E8 x.2.1.length k)∧w0=w'):=by
 refine aR (args:=[_,_]) (fn:=Tryz.f222) Tryz.func222 rfl (n:=16) Tryz.ntmps222 (ai (ad (ah rfl rfl (ab (ai (ad (ae rfl rfl (dh rfl rfl rfl (ae rfl rfl ?_)))))))));refine aL (g:=7) rfl (fun fu=>?_) (fun fu=>?_)
 ·refine ak rfl rfl (ae rfl rfl (ak rfl rfl (ae rfl rfl (ak rfl rfl (aC rfl (cf.jB (by assumption)) rfl (ak rfl rfl ?_))))));refine aM (M:=M) (A:=RT.li) (B:=(RT.bl).sl) dw rfl rfl A9 (by decide) (Tr) rfl rfl (by decide) (by assumption) (by repeat (first|exact aq _ _|refine aU (bm (by assumption)) ?_)) (fun ae0 aaY=>?_);refine ak rfl rfl ?_;refine bZ (M:=M) dP rfl rfl rfl rfl rfl (by assumption) (by repeat (first|exact aq _ _|refine aU (bm (by assumption)) ?_)) (fun XD RG=>?_);refine ak rfl rfl ?_
  first|refine bM dP rfl (by assumption) rfl ?_|refine gN dP rfl (by assumption) rfl ?_
  refine ak rfl rfl (bY rfl rfl rfl (aP rfl rfl rfl (ah rfl rfl (ab (aI ?_)))))
  first
  |exact aO rfl rfl ⟨congrArg Value.bool (decide_eq_decide.2 (by omega)),rfl⟩
  |exact aO rfl rfl ⟨congrArg Value.bool (eQ (decide_eq_false (by omega))),rfl⟩
 ·refine ao rfl rfl rfl rfl (ao rfl rfl rfl rfl (ao rfl rfl rfl rfl (ao rfl rfl rfl rfl (ao rfl rfl rfl rfl (ao rfl rfl rfl rfl (ao rfl rfl rfl rfl (av rfl rfl rfl (ah rfl rfl (ab (aI ?_))))))))))
  first
  |exact aO rfl rfl ⟨congrArg Value.bool (decide_eq_decide.2 (by omega)),rfl⟩
  |exact aO rfl rfl ⟨congrArg Value.bool (eQ (decide_eq_false (by omega))),rfl⟩
theorem kF {M:aD} {w0:World} {v:Value} {x:Li} (hv:cf RT.li M w0 v x):
  Spec Tryz.prog 255 #[v] w0 (fun v' w'=>v'= .int .i64 x.2.1.length∧w0=w'):=by
 refine aR (args:=[_]) (fn:=Tryz.f255) Tryz.func255 rfl (n:=8) Tryz.ntmps255 (ai (ad (ah rfl rfl (ab (ai (ad (ae rfl rfl (aC rfl (cf.jB (by assumption)) rfl ?_))))))));refine aM (M:=M) (A:=RT.li) (B:=(RT.bl).sl) dw rfl rfl A9 (by decide) (Tr) rfl rfl (by decide) (by assumption) (by repeat (first|exact aq _ _|refine aU (bm (by assumption)) ?_)) (fun Jf tS=>?_);refine bZ (M:=M) dP rfl rfl rfl rfl rfl (by assumption) (by repeat (first|exact aq _ _|refine aU (bm (by assumption)) ?_)) (fun Q9 GI=>?_)
 first|refine bM dP rfl (by assumption) rfl ?_|refine gN dP rfl (by assumption) rfl ?_
 refine ah rfl rfl (ab (aI ?_));exact aO rfl rfl ⟨rfl,rfl⟩
theorem Ej {M:aD} {w0:World} {v:Value} {x:Li} (hv:cf RT.li M w0 v x) {k:Int}:
  Spec Tryz.prog 256 #[v,.int .i64 k] w0 (fun v' w'=>v'= .int .i64 (yT x.2.1 k)∧w0=w'):=by
 refine aR (args:=[_,_]) (fn:=Tryz.f256) Tryz.func256 rfl (n:=17) Tryz.ntmps256 (ai (ad (ah rfl rfl (ab (ai (ai (ad (ae rfl rfl (ae rfl rfl ?_)))))))));refine aJ rfl rfl PK (C5 hv (k:=k)) (fun r w1 h1=>?_);obtain⟨rfl,rfl⟩:=h1;refine km rfl rfl (br (v':= .bool (decide (¬(0≤k∧k<x.2.1.length)))) (by unfold E8;rw[decide_not]) (ab ?_));refine bK rfl (fun c1=>?_) (fun c1=>?_)
 ·refine ai (ad (ah rfl rfl (ab (aI ?_))));exact aO rfl rfl ⟨by unfold yT E8;rw[if_neg (by simpa using c1)],rfl⟩
 ·refine aT (ai (ad (ae rfl rfl (aC rfl (cf.jB (by assumption)) rfl ?_))));refine aM (M:=M) (A:=RT.li) (B:=(RT.bl).sl) dw rfl rfl A9 (by decide) (Tr) rfl rfl (by decide) (by assumption) (by repeat (first|exact aq _ _|refine aU (bm (by assumption)) ?_)) (fun IX tI=>?_);refine bZ (M:=M) dP rfl rfl rfl rfl rfl (by assumption) (by repeat (first|exact aq _ _|refine aU (bm (by assumption)) ?_)) (fun RH KM=>?_);refine ae rfl rfl ?_;obtain⟨b,hb⟩:∃b,x.2.1[k.toNat]? =some b:=⟨_,aK (by omega)⟩;refine dq (M:=M) dP uH rfl rfl rfl (by assumption) (aq _ _) (by omega) (fun XE NI Hl RI=>?_);obtain rfl:NI=b:=bU (Hl.symm.trans hb);refine aM (M:=M) (A:=RT.bl) (B:=RT.int .i64) jM rfl rfl I3 (by decide) (bl2) rfl rfl (by decide) (by assumption) (by repeat (first|exact aq _ _|refine aU (bm (by assumption)) ?_)) (fun ae1 aaZ=>?_);refine cn (M:=M) an rfl rfl (by assumption) (by repeat (first|exact aq _ _|refine aU (bm (by assumption)) ?_)) (fun aa0=>?_);refine ah rfl rfl (ab (aI ?_));exact aO rfl rfl ⟨by unfold yT E8;rw[if_pos (by simpa using c1),bH,hb];rfl,rfl⟩
theorem BZ {M:aD} {w0:World} {v:Value} {b:List UInt8} {at_ ahead:Int} (hM:Lt M w0) (hv:(RT.u8.sl).V M w0 b v) (OY: -9223372036854775808≤at_∧at_≤9223372036854775807) (hah: -9223372036854775808≤ahead∧ahead≤9223372036854775807) (AT:b.length≤1099511627776):
  Spec Tryz.prog 223 #[v,.int .i64 at_,.int .i64 ahead] w0 (fun v' w'=>∃p,v'= .tuple #[p,.int .i64 (n4 b at_ ahead).2.1,.int .i64 (n4 b at_ ahead).2.2]∧RT.po.V M w' (n4 b at_ ahead).1 p∧Step M w0 M w' aw):=by
 refine aR (args:=[_,_,_]) (fn:=Tryz.f223) Tryz.func223 rfl (n:=38) Tryz.ntmps223 (ai (ad ?_));refine ew M ni rfl (fun b0 w1 hb0 ae2 hB s1=>?_);have rG:=s1.lt hM;have uw:=hv.le s1.le;refine ah rfl rfl (ah rfl rfl (ab (ai (ad (ae rfl rfl (ae rfl rfl ?_))))));refine aJ rfl rfl PQ (Am uw OY) (fun r w2 h2=>?_);obtain⟨rfl,rfl⟩:=h2;have sd:=vK b at_;obtain⟨XC,hn1,hn2,hn3⟩:=lR b at_;refine ae rfl rfl (bu rfl rfl rfl (bu rfl rfl rfl (bu rfl rfl rfl (ah rfl rfl (ah rfl rfl (ah rfl rfl (ab (ai (ai (ad (ae rfl rfl ?_)))))))))));refine eg rfl rfl rfl (ab ?_);refine bK rfl (fun c2=>?_) (fun c2=>?_)
 ·refine ai (ad (dO (places:=[(0,1),(1,1)]) bO ni Tv rfl rfl (out:=[.int .i64 0,.slice none 0 0]) rfl (ae rfl rfl ?_)));refine eP (M:=ins M b0) ni rfl rfl (by intro u hu;simp at hu;rcases hu with rfl|rfl<;>rfl) rfl rfl hB (.inl rfl) (fun w3 hB3 s3=>?_);refine ah rfl rfl (ah rfl rfl (ab (aI ?_)));have jj:=s1.size;have S:Step M w0 M w3 aw:=(s1.cO s3 (fun k hk=>by subst hk;omega)).back;refine E5 rfl rfl bO rfl ni rfl hB3 rfl rfl ⟨_,by unfold n4;rw[if_pos c2]<;>rfl,?_,S⟩;unfold n4;rw[if_pos c2];exact eA (gu (x:=0) (by omega)) fZ rfl rfl rfl rfl
 ·refine aT (ai (ad (ae rfl rfl (ae rfl rfl ?_))));have fY:=ql (b:=b) (at_:=at_) (by omega);refine aJ rfl rfl Vi (tX (M:=ins M b0) rG uw (by omega) AT) (fun r w3 h3=>?_);obtain⟨x3,rfl,RJ,s3⟩:=h3;refine ae rfl rfl (bu rfl rfl rfl (bu rfl rfl rfl (bu rfl rfl rfl (ah rfl rfl (ah rfl rfl (ah rfl rfl (ab (ai (ad (ae rfl rfl (Rg.xk rfl rfl rfl ?_)))))))))));refine ae rfl rfl (Rg.xk rfl rfl rfl (ae rfl rfl (dO (places:=[(0,1),(1,1)]) bO ni Tv rfl ⟨_,_,rfl,rfl,_,_,rfl,rfl,rfl⟩ (out:=[_,_]) ⟨0,[_],rfl,rfl,by simp[Value.cells],1,[_],rfl,jc RJ,by simp[Value.cells],rfl⟩ (ae rfl rfl (ae rfl rfl ?_)))));obtain⟨vx,tz⟩:∃vx,vx=x3:=⟨_,rfl⟩;have qc:=j0 RJ rfl rfl;refine eP (M:=ins M b0) ni rfl rfl (by intro u hu;simp at hu;rcases hu with rfl|rfl;rfl;exact qc) rfl rfl (s3.aE hB) (.inl rfl) (fun w4 TU s4=>?_);refine ah rfl rfl (ah rfl rfl (ab (aI ?_)));have jj:=s1.size;have ae4:=s3.size;have S3:=s1.ax s3;have S:Step M w0 M w4 aw:=(S3.cO s4 (fun k hk=>by subst hk;omega)).back;refine E5 rfl rfl bO rfl ni rfl TU rfl rfl ⟨_,by unfold n4;rw[if_neg c2]<;>rfl,?_,S⟩;unfold n4;rw[if_neg c2];have hx4:=(RJ.le s4.le).le (Le.close hM (S3.cO s4 (fun k hk=>by subst hk;omega)));exact eA (gu E6) hx4 rfl rfl rfl rfl
theorem B1 {M:aD} {w0:World} {v:Value} {l:List Po} {k:Int} (hM:Lt M w0) (hv:cf RT.li M w0 v (hG l)) (tZ:dY (-1) l=true) (iK:∀p∈l,p.2.length≤1099511627776) (AT:(dz (-1) l).length≤1099511627776):
  Spec Tryz.prog 180 #[v,.int .i64 k] w0 (fun v' w'=>Step M w0 M w' aw∧((RT.po).sl).V M w' (if E8 ((l.length+7)/8) k then(l.drop (8*k.toNat)).take 8 else[]) v'):=by
 have RL:(hG l).2.1.length=(l.length+7)/8:=by simp[hG,mD]
 refine aR (args:=[_,_]) (fn:=Tryz.f180) Tryz.func180 rfl (n:=51) Tryz.ntmps180 (ai (ad (ah rfl rfl (ab (ai (ai (ad (ae rfl rfl (ae rfl rfl ?_)))))))));refine aJ rfl rfl PK (C5 hv (k:=k)) (fun r w1 h1=>?_);obtain⟨rfl,rfl⟩:=h1;refine km rfl rfl (br (v':= .bool (decide (¬(0≤k∧k<(hG l).2.1.length)))) (by unfold E8;rw[decide_not]) (ab ?_));refine bK rfl (fun c1=>?_) (fun c1=>?_)
 ·refine ai (ad (ah rfl rfl (ab (aI ?_))));refine aO rfl rfl ⟨al _ _,?_⟩;rw[if_neg (by unfold E8;rw[RL]at c1;simpa using c1)];exact fZ
 ·refine aT (ai (ad (ae rfl rfl (aC rfl (cf.jB (by assumption)) rfl ?_))));refine aM (M:=M) (A:=RT.li) (B:=(RT.bl).sl) dw rfl rfl A9 (by decide) (Tr) rfl rfl (by decide) (by assumption) (by repeat (first|exact aq _ _|refine aU (bm (by assumption)) ?_)) (fun IX tI=>?_);refine bZ (M:=M) dP rfl rfl rfl rfl rfl (by assumption) (by repeat (first|exact aq _ _|refine aU (bm (by assumption)) ?_)) (fun RH KM=>?_);refine ae rfl rfl ?_;obtain⟨j,rfl⟩:∃j:Nat,k=j:=⟨k.toNat,by omega⟩;have hb:(hG l).2.1[j]? =some (pw l j):=by simp only[hG,mD,dZ];rw[List.getElem?_range (by omega)];rfl
  refine dq (M:=M) dP uH rfl rfl rfl (by assumption) (aq _ _) (by omega) (fun XE NI Hl RI=>?_);obtain rfl:NI=pw l j:=bU (Hl.symm.trans (by simpa using hb));have KE:(pw l j).2.2.2=(((l.drop (8*j)).take 8).length:Int):=rfl;have aa1:((l.drop (8*j)).take 8).length≤8:=by rw[bS];omega
  refine cM (M:=M) (A:=RT.bl) jM rfl uH (by decide) rfl rfl rfl (by assumption) (by repeat (first|exact aq _ _|refine aU (bm (by assumption)) ?_)) (fun ae6 aa2=>?_);refine rI (A:=RT.bl) (M:=M) uH rfl rfl rfl rfl rfl (by assumption) (by repeat (first|exact aq _ _|refine aU (bm (by assumption)) ?_)) (by first|assumption|exact Step.lt (by assumption) (by assumption)|exact Step.lt (by assumption) (Step.lt (by assumption) (by assumption))) (fun XF NJ aa3 NK ae7=>?_);refine ab (ai (ad (ah rfl rfl (ab (ai (ai ?_))))));apply T.draw (M:=M) mixed [b5.ptr (RT.int .i64) (pw l j).1,b5.eq _,b5.ptr (RT.int .i64) (pw l j).2.1,b5.eq _,b5.eq _,b5.eq _]
  ·rfl
  ·refine aQ ?_ ?_
   ·intro wD E sD;refine aM (M:=M) (A:=RT.bl) (B:=RT.int .i64) jM rfl rfl I3 (by decide) (bl0) rfl rfl (by decide) (by assumption) (by repeat (first|exact aq _ _|refine aU (bm (by assumption)) ?_)) (fun Rw C4=>?_);exact ab ⟨rfl,rfl,_,rfl,by assumption,al _ _⟩
   refine aQ ?_ ?_
   ·intro wD E sD;intro v0 JS;refine cn (M:=M) an rfl rfl (by assumption) (by repeat (first|exact aq _ _|refine aU (bm (by assumption)) ?_)) (fun KN=>?_);exact ab ⟨rfl,rfl,_,rfl,rfl,al _ _⟩
   refine aQ ?_ ?_
   ·intro wD E sD;refine aM (M:=M) (A:=RT.bl) (B:=RT.int .i64) jM rfl rfl I3 (by decide) (bl1) rfl rfl (by decide) (by assumption) (by repeat (first|exact aq _ _|refine aU (bm (by assumption)) ?_)) (fun XG rq=>?_);exact ab ⟨rfl,rfl,_,rfl,by assumption,al _ _⟩
   refine aQ ?_ ?_
   ·intro wD E sD;intro v2 yB;refine cn (M:=M) an rfl rfl (by assumption) (by repeat (first|exact aq _ _|refine aU (bm (by assumption)) ?_)) (fun aa4=>?_);exact ab ⟨rfl,rfl,_,rfl,rfl,al _ _⟩
   refine aQ ?_ ?_
   ·intro wD E sD;refine ay ?_;intro v0 JS;refine ay (ah rfl rfl ?_);exact ab ⟨rfl,rfl,_,rfl,rfl,al _ _⟩
   refine aQ ?_ ?_
   ·intro wD E sD;refine ay (ay ?_);intro v0 JS;refine ay ?_;intro v2 yB;refine ay (ay (ah rfl rfl ?_));exact ab ⟨rfl,rfl,_,rfl,rfl,al _ _⟩
   exact cb.nil
  ·intro wD5 Jn;intro ae8 aa5;refine ay ?_;intro Wn Kr;refine ay (ay (ay (a7 ?_)));have hz5:=NK.size;refine dd (σ:=Nat×Value) (fun s=>[(0,v),(5,XF),(6,s.2),(7,.int .i64 (dz (-1) (l.take (8*j+s.1))).length),(8,.int .i64 (bW (-1) (l.take (8*j+s.1))))]) (fun s w=>s.1≤((l.drop (8*j)).take 8).length∧∃M1,Lt M1 w∧Step M w0 M1 w aw∧Step M NJ M1 w aw∧Own RT.po 83 M1 w NJ.heap.size s.2 (((l.drop (8*j)).take 8).take s.1)) (fun s=>((l.drop (8*j)).take 8).length-s.1) (0,_) (.cons rfl (.cons rfl (.cons rfl (.cons rfl (.cons rfl .nil))))) ?_ ?_
   ·exact⟨bG _,M,Jn.lt (NK.lt hM),NK.ax Jn,Jn,eh _ _ _ _ _⟩
   ·rintro⟨i,u0⟩ w1 ⟨hi,M1,rG,S,S5,ho⟩;dsimp only at hi ho ⊢;refine ai (ai (ad (ae rfl rfl (gN a8 rfl ho rfl (br (v':= .int .i64 i) (by rw[bS,Nat.min_eq_left hi]) ?_)))));refine aM (M:=M1) (A:=RT.bl) (B:=RT.int .i64) jM rfl rfl I3 (by decide) (bl3) rfl rfl (by decide) (by assumption) (by repeat (first|exact aq _ _|refine aU (bm (by assumption)) ?_)) (fun Qr RM=>?_);refine cn (M:=M1) an rfl rfl RM (aq _ _) (fun aa7=>?_);refine br (v':= .int .i64 ((l.drop (8*j)).take 8).length) rfl (bY rfl rfl rfl (ab ?_));refine bK rfl (fun c6=>?_) (fun c6=>?_)
    ·refine aT (a7 (ai (ad (ae rfl rfl (aC rfl (cf.jB (by assumption)) rfl ?_)))));refine aM (M:=M1) (A:=RT.li) (B:=RT.u8.sl) dw rfl rfl y4 (by decide) (li0) rfl rfl (by decide) (by assumption) (by repeat (first|exact aq _ _|refine aU (bm (by assumption)) ?_)) (fun W2 wN=>?_);refine bZ (M:=M1) bp rfl rfl rfl rfl rfl (by assumption) (by repeat (first|exact aq _ _|refine aU (bm (by assumption)) ?_)) (fun ae9 RN=>?_);refine ae rfl rfl (ae rfl rfl ?_);obtain⟨⟨d,ps⟩,hx⟩:∃x,l[8*j+i]? =some x:=⟨_,aK (by rw[bS,cT]at c6;omega)⟩;obtain⟨f1,f2,f3,f4,f5,f6⟩:=mX tZ hx;have QH:n4 (hG l).1 _ _=_:=E9 tZ hx (iK _ (aN hx));have Dm:(dz (-1) (l.take (8*j+i))).length≤(dz (-1) l).length:=by rw[mY (l:=l) (i:=8*j+i) (-1)];simp
     refine aJ rfl rfl U8 (BZ (M:=M1) rG RN (by omega) (by omega) AT) (fun r7 w7 h7=>?_);obtain⟨p7,h7e,O0,s7⟩:=h7;rw[QH]at h7e O0;subst h7e;change RT.po.V M1 w7 (d,ps) p7 at O0;replace S:=S.ax s7;replace S5:=S5.ax s7;replace ho:=ho.aW s7;replace rG:=s7.lt rG;have hci:((l.drop (8*j)).take 8)[i]? =some (d,ps):=by rw[dm,if_pos (by omega),List.getElem?_drop];exact hx
     refine ae rfl rfl (bu rfl rfl rfl (bu rfl rfl rfl (bu rfl rfl rfl ?_)));refine rI (A:=RT.po) (M:=M1) ni rfl rfl rfl rfl rfl (by assumption) (by repeat (first|exact aq _ _|refine aU (bm (by assumption)) ?_)) (by first|assumption|exact Step.lt (by assumption) (by assumption)|exact Step.lt (by assumption) (Step.lt (by assumption) (by assumption))) (fun aa9 aba Hm C6 abb=>?_);refine ah rfl rfl (ah rfl rfl (ab (ai (ad (ae rfl rfl ?_)))));replace S:=S.ax C6;replace S5:=S5.ax C6;replace ho:=ho.aW C6;replace rG:=C6.lt rG;clear O0;refine cM (M:=M1) (A:=RT.po) bO rfl ni (by decide) rfl rfl rfl Hm (aq _ _) (fun v8 C3=>?_);refine fa (A:=RT.po) (hn:=by decide) (M:=M1) a8 ni (by decide) rfl rfl rG C3 (.inl rfl) (fun u2 w2 rB s2=>?_);refine cQ (M:=M1) (base:=NJ.heap.size) a8 ni rfl rfl rfl rfl (ho.aW s2) rB (aq _ _) (by simp;omega) (by simp;omega) (fS S5.size s2.size) (fun v3 M3 w3 EJ s3=>?_);replace S:=(S.ax s2).dE s3 (ho.aW s2) hz5;have WB:=(Hm.le (by decide) s2.le).le (by decide) s3.le;have hM3:=s3.lt (s2.lt rG);replace S5:=(S5.ax s2).dE s3 (ho.aW s2) (aZ _);refine ah rfl rfl (ab ?_);apply T.draw (M:=M3) mixed [b5.eq _,b5.ptr (RT.int .i64) d,b5.eq _,b5.eq _,b5.eq _]
     ·rfl
     ·refine aQ ?_ ?_
      ·intro wD E sD;refine ae rfl rfl ?_;exact ab ⟨rfl,rfl,_,rfl,rfl,al _ _⟩
      refine aQ ?_ ?_
      ·intro wD E sD;refine aM (M:=M3) (A:=RT.po) (B:=RT.int .i64) bO rfl rfl I3 (by decide) (HV) rfl rfl (by decide) WB sD.le (fun W6 G1=>?_);exact ab ⟨rfl,rfl,_,rfl,G1,al _ _⟩
      refine aQ ?_ ?_
      ·intro wD E sD;intro v1 uw;refine cn (M:=M3) an rfl rfl (by assumption) (by repeat (first|exact aq _ _|refine aU (bm (by assumption)) ?_)) (fun abc=>?_);exact ab ⟨rfl,rfl,_,rfl,rfl,al _ _⟩
      refine aQ ?_ ?_
      ·intro wD E sD;refine ay (ay (ah rfl rfl ?_));exact ab ⟨rfl,rfl,_,rfl,rfl,al _ _⟩
      refine aQ ?_ ?_
      ·intro wD E sD;refine ay (ay (ay ?_));intro v1 uw;refine ay (ay (ah rfl rfl ?_));exact ab ⟨rfl,rfl,_,rfl,rfl,al _ _⟩
      exact cb.nil
     ·intro O1 C7;refine ay ?_;intro afc abd;refine ay (ay (ay ?_));refine⟨rfl,(i+1,v3),(.cons rfl (.cons rfl (.cons rfl (.cons rfl (.cons (by rw[←f5];rfl) .nil))))),?_,?_⟩
      ·refine⟨by simp only;omega,M3,C7.lt hM3,S.ax C7,S5.ax C7,?_⟩;simp only;obtain⟨HX,HY⟩:=au.1 hci;rw[ou HX,HY];exact EJ.aW C7
      ·simp only;omega
    ·refine cB (ai (ad (ae rfl rfl (ah rfl rfl (ab (aI ?_))))));refine aO rfl rfl ⟨S.back,?_⟩;rw[if_pos (by unfold E8;rw[RL]at c1;simpa using c1),aG];rw[bT (by omega)]at ho;exact Own.close hM S (ho.sh hz5) (by omega)
end Go.K
namespace Go.K
open Go.Proofs
set_option maxRecDepth 10000
theorem Ao {M:aD} {w0:World} {v:Value} {l:List Int} (hv:((RT.int .i64).sl).V M w0 l v):
  Spec Tryz.prog 249 #[v] w0 (fun v' w'=>v'= .bool (lS l)∧w0=w'):=by
 have hlen:=eR hv;refine aR (args:=[_]) (fn:=Tryz.f249) Tryz.func249 rfl (n:=32) Tryz.ntmps249 (ai (ad (ah rfl rfl (ab (ai (ai (ad (ae rfl rfl ?_))))))))
 first|refine bM ar rfl (by assumption) rfl ?_|refine gN ar rfl (by assumption) rfl ?_
 refine ae rfl rfl (ab (a7 ?_));refine dd (σ:=Nat×Int) (fun s=>[(0,v),(5,v),(6,.int .i64 l.length),(7,.int .i64 s.1)]) (fun s w=>w0=w∧s.1≤l.length∧lS l=(eI s.2 (l.drop s.1)&&(l.drop s.1).all (fun n=>decide (n<2147483648)))∧ -1≤s.2∧(s.1=0→s.2= -1)∧(0<s.1→l[s.1-1]? =some s.2)) (fun s=>l.length-s.1) (0,-1) (.cons rfl (.cons rfl (.cons rfl (.cons rfl .nil)))) ?_ ?_
 ·exact⟨rfl,bG _,rfl,by decide,fun _=>rfl,fun h=>absurd h (mB 0)⟩
 ·rintro⟨k,last⟩ w1 ⟨rfl,hk,hr,Ru,h0,h1⟩;dsimp only at hk hr Ru h0 h1 ⊢;refine ai (ad (bY rfl rfl rfl (ab (ai ?_))));refine bK rfl (fun c2=>?_) (fun c2=>?_)
  ·refine aT (ai (a7 (ai (ad (ae rfl rfl ?_)))));obtain⟨x,hx⟩:∃x,l[k]? =some x:=⟨_,aK (by omega)⟩;refine dq (M:=M) ar I3 rfl rfl rfl hv (aq _ _) (by omega) (fun afd XH RO abe=>?_);obtain rfl:x=XH:=eQ (bU (RO.symm.trans (by simpa using hx)));refine cn (M:=M) an rfl rfl (by assumption) (by repeat (first|exact aq _ _|refine aU (bm (by assumption)) ?_)) (fun abf=>?_);refine ah rfl rfl (ah rfl rfl (ab (ai (ad (ae rfl rfl (bY rfl rfl rfl (ae rfl rfl ?_)))))));refine aL (g:=14) rfl (fun Hc=>?_) (fun Hc=>?_)
   ·refine ao rfl rfl rfl rfl (ao rfl rfl rfl rfl (aP rfl rfl rfl (ae rfl rfl (ao rfl rfl rfl rfl (ao rfl rfl rfl rfl (ao rfl rfl rfl rfl (b4 rfl rfl rfl (b4 rfl rfl rfl (b4 rfl rfl rfl (b4 rfl rfl rfl (b4 rfl rfl rfl ?_)))))))))));refine b4 rfl rfl rfl (b4 rfl rfl rfl (ao rfl rfl rfl rfl (aP rfl rfl rfl (ab (kY rfl (ai (ad (ah rfl rfl (ab (aI ?_))))))))));refine aO rfl rfl ⟨congrArg Value.bool (eQ ?_),rfl⟩;rw[hr,fg hx,mZ _ hx];by_cases h7:last<x
    ·have h2: ¬x<2147483648:=by omega
     simp[h2]
    ·simp[h7]
   ·refine ak rfl rfl (ae rfl rfl (ak rfl rfl (dh rfl rfl rfl (av rfl rfl rfl (ae rfl rfl ?_)))));refine aL (g:=18) rfl (fun XI=>?_) (fun XI=>?_)
    ·refine ao rfl rfl rfl rfl (ao rfl rfl rfl rfl (ao rfl rfl rfl rfl (b4 rfl rfl rfl (b4 rfl rfl rfl (b4 rfl rfl rfl (b4 rfl rfl rfl (b4 rfl rfl rfl (b4 rfl rfl rfl (b4 rfl rfl rfl (ao rfl rfl rfl rfl (aP rfl rfl rfl ?_)))))))))));refine ab (kY rfl (ai (ad (ah rfl rfl (ab (aI ?_))))));refine aO rfl rfl ⟨congrArg Value.bool (eQ ?_),rfl⟩;rw[hr,fg hx,mZ _ hx];by_cases h7:last<x
     ·have h2: ¬x<2147483648:=by omega
      simp[h2]
     ·simp[h7]
    ·refine ak rfl rfl (ae rfl rfl (ak rfl rfl (nT rfl rfl rfl (ak rfl rfl (ae rfl rfl ?_)))));refine aL (g:=21) rfl (fun XJ=>?_) (fun XJ=>?_)
     ·refine ak rfl rfl (ae rfl rfl (ak rfl rfl (ae rfl rfl (ak rfl rfl (ae rfl rfl (ak rfl rfl (gj rfl rfl rfl (by omega) (ak rfl rfl ?_))))))));refine dq (M:=M) ar I3 rfl rfl rfl hv (aq _ _) (by omega) (fun abg RP NL XK=>?_);obtain rfl:last=RP:=eQ (bU (NL.symm.trans (by rw[show((k:Int)-1).toNat=k-1 from by omega];exact h1 (by omega))));refine ak rfl rfl ?_;refine cn (M:=M) an rfl rfl (by assumption) (by repeat (first|exact aq _ _|refine aU (bm (by assumption)) ?_)) (fun XL=>?_);refine ak rfl rfl (fc rfl rfl rfl (ak rfl rfl (aP rfl rfl rfl (av rfl rfl rfl (ab ?_)))));refine bK rfl (fun c4=>?_) (fun c4=>?_)
      ·refine ai (ad (ah rfl rfl (ab (aI ?_))));refine aO rfl rfl ⟨congrArg Value.bool (eQ ?_),rfl⟩;rw[hr,fg hx,mZ _ hx];by_cases h7:last<x
       ·have h2: ¬x<2147483648:=by omega
        simp[h2]
       ·simp[h7]
      ·refine aT (ad (bA rfl rfl rfl (by omega) (ae rfl rfl (ab ?_))));refine⟨rfl,(k+1,x),(.cons rfl (.cons rfl (.cons rfl (.cons rfl .nil)))),?_,?_⟩
       ·refine⟨rfl,by simp only;omega,?_,by simp only;omega,fun h=>by simp at h,fun _=>by simpa using hx⟩;rw[hr,fg hx,mZ _ hx,decide_eq_true (show last<x by omega),decide_eq_true (show x<2147483648 by omega),dy,dy]
       ·simp only;omega
     ·refine ao rfl rfl rfl rfl (ao rfl rfl rfl rfl (ao rfl rfl rfl rfl (ao rfl rfl rfl rfl (ao rfl rfl rfl rfl (ao rfl rfl rfl rfl (ao rfl rfl rfl rfl (ak rfl rfl (av rfl rfl rfl (av rfl rfl rfl (ab (fL rfl ?_)))))))))));refine aT (ad (bA rfl rfl rfl (by omega) (ae rfl rfl (ab ?_))));refine⟨rfl,(k+1,x),(.cons rfl (.cons rfl (.cons rfl (.cons rfl .nil)))),?_,?_⟩
      ·refine⟨rfl,by simp only;omega,?_,by simp only;omega,fun h=>by simp at h,fun _=>by simpa using hx⟩;rw[hr,fg hx,mZ _ hx,decide_eq_true (show last<x by omega),decide_eq_true (show x<2147483648 by omega),dy,dy]
      ·simp only;omega
  ·refine cB (ai (ad (ah rfl rfl (ab (aI ?_)))));refine aO rfl rfl ⟨congrArg Value.bool (eQ ?_),rfl⟩;rw[hr,dL (by omega)];rfl
theorem Ek {M:aD} {w0:World} {v:Value} {l:List Po} (hM:Lt M w0) (hv:((RT.po).sl).V M w0 l v):
  Spec Tryz.prog 193 #[v] w0 (fun v' w'=>v'= .bool (dY (-1) l)∧Step M w0 M w' aw):=by
 have hlen:=eR hv;refine aR (args:=[_]) (fn:=Tryz.f193) Tryz.func193 rfl (n:=36) Tryz.ntmps193 (ai (ad (ah rfl rfl (ab (ai (ad (ah rfl rfl (ab (ai (ai (ad ?_)))))))))));refine ae rfl rfl ?_
 first|refine bM a8 rfl (by assumption) rfl ?_|refine gN a8 rfl (by assumption) rfl ?_
 refine ae rfl rfl (ab (a7 ?_));refine dd (σ:=Nat×Int) (fun s=>[(6,v),(7,.int .i64 l.length),(8,.int .i64 s.1),(3,.int .i64 s.2)]) (fun s w=>Step M w0 M w aw∧s.1≤l.length∧dY (-1) l=dY s.2 (l.drop s.1)) (fun s=>l.length-s.1) (0,-1) (.cons rfl (.cons rfl (.cons rfl (.cons rfl .nil)))) ?_ ?_
 ·exact⟨al _ _,bG _,rfl⟩
 ·rintro⟨k,last⟩ w1 ⟨S,hk,hr⟩;dsimp only at hk hr ⊢;have hMw:=S.lt hM;refine ai (ad (bY rfl rfl rfl (ab (ai ?_))));refine bK rfl (fun c3=>?_) (fun c3=>?_)
  ·refine aT (ai (a7 (ai (ad ?_))));obtain⟨⟨d,ps⟩,hx⟩:∃x,l[k]? =some x:=⟨_,aK (by omega)⟩;refine dq (M:=M) a8 ni rfl rfl rfl (hv.le S.le) (aq _ _) (by omega) (fun MD XM RQ CQ=>?_);obtain rfl:XM=(d,ps):=bU (RQ.symm.trans (by simpa using hx));refine cM (M:=M) (A:=RT.po) bO rfl ni (by decide) rfl rfl rfl (by assumption) (by repeat (first|exact aq _ _|refine aU (bm (by assumption)) ?_)) (fun ME F0=>?_);refine rI (A:=RT.po) (M:=M) ni rfl rfl rfl rfl rfl (by assumption) (by repeat (first|exact aq _ _|refine aU (bm (by assumption)) ?_)) (by first|assumption|exact Step.lt (by assumption) (by assumption)|exact Step.lt (by assumption) (Step.lt (by assumption) (by assumption))) (fun Qa Qb lv pD Xu=>?_);refine ab (ai (ai (ad ?_)));refine aM (M:=M) (A:=RT.po) (B:=RT.int .i64) bO rfl rfl I3 (by decide) (HV) rfl rfl (by decide) (by assumption) (by repeat (first|exact aq _ _|refine aU (bm (by assumption)) ?_)) (fun Rw C4=>?_);refine cn (M:=M) an rfl rfl C4 (aq _ _) (fun KN=>?_);refine br (v':= .int .i64 d) rfl ?_;simp only at KN;refine ae rfl rfl (fc rfl rfl rfl (ae rfl rfl ?_));refine aL (g:=16) rfl (fun XN=>?_) (fun XN=>?_)
   ·refine ao rfl rfl rfl rfl (ao rfl rfl rfl rfl (ao rfl rfl rfl rfl (aP rfl rfl rfl (ae rfl rfl (ao rfl rfl rfl rfl (ao rfl rfl rfl rfl (ao rfl rfl rfl rfl (ao rfl rfl rfl rfl (aP rfl rfl rfl (ae rfl rfl (ao rfl rfl rfl rfl ?_)))))))))));refine ao rfl rfl rfl rfl (ao rfl rfl rfl rfl (ao rfl rfl rfl rfl (aP rfl rfl rfl (ab (kY rfl (ai (ad (ah rfl rfl (ab (aI ?_))))))))));refine aO rfl rfl ⟨congrArg Value.bool (eQ ?_),S.ax pD⟩;rw[hr,j3 hx]
    first
    |(rw[decide_eq_false (show¬last<d by omega)];simp;done)
    |(rw[decide_eq_false (show¬d<2147483648 by omega)];simp;done)
    |(rw[show ps=[]from gm.1 (by omega)];simp;done)
    |(simp[c5];done)
   ·refine ak rfl rfl ?_;refine aM (M:=M) (A:=RT.po) (B:=RT.int .i64) bO rfl rfl I3 (by decide) (HV) rfl rfl (by decide) (by assumption) (by repeat (first|exact aq _ _|refine aU (bm (by assumption)) ?_)) (fun afe RR=>?_);refine ak rfl rfl ?_;refine cn (M:=M) an rfl rfl RR (aq _ _) (fun abh=>?_);refine br (v':= .int .i64 d) rfl (ak rfl rfl (dh rfl rfl rfl (av rfl rfl rfl (ae rfl rfl ?_))));refine aL (g:=21) rfl (fun XO=>?_) (fun XO=>?_)
    ·refine ao rfl rfl rfl rfl (ao rfl rfl rfl rfl (ao rfl rfl rfl rfl (ao rfl rfl rfl rfl (aP rfl rfl rfl (ae rfl rfl (ao rfl rfl rfl rfl (ao rfl rfl rfl rfl (ao rfl rfl rfl rfl (ao rfl rfl rfl rfl (aP rfl rfl rfl (ab ?_)))))))))));refine kY rfl (ai (ad (ah rfl rfl (ab (aI ?_)))));refine aO rfl rfl ⟨congrArg Value.bool (eQ ?_),S.ax pD⟩;rw[hr,j3 hx]
     first
     |(rw[decide_eq_false (show¬last<d by omega)];simp;done)
     |(rw[decide_eq_false (show¬d<2147483648 by omega)];simp;done)
     |(rw[show ps=[]from gm.1 (by omega)];simp;done)
     |(simp[c5];done)
    ·refine ak rfl rfl ?_;refine aM (M:=M) (A:=RT.po) (B:=(RT.int .i64).sl) bO rfl rfl lI (by decide) (PB) rfl rfl (by decide) (by assumption) (by repeat (first|exact aq _ _|refine aU (bm (by assumption)) ?_)) (fun abi XP=>?_);refine ak rfl rfl ?_;refine bZ (M:=M) ar rfl rfl rfl rfl rfl (by assumption) (by repeat (first|exact aq _ _|refine aU (bm (by assumption)) ?_)) (fun abj NM=>?_);refine ak rfl rfl (bM ar rfl NM rfl (br (v':= .int .i64 ps.length) rfl (ak rfl rfl (jD rfl rfl rfl (av rfl rfl rfl (ae rfl rfl ?_))))));refine aL (g:=27) rfl (fun KO=>?_) (fun KO=>?_)
     ·refine ao rfl rfl rfl rfl (ao rfl rfl rfl rfl (ao rfl rfl rfl rfl (ao rfl rfl rfl rfl (aP rfl rfl rfl (ab (kY rfl (ai (ad (ah rfl rfl (ab (aI ?_)))))))))));refine aO rfl rfl ⟨congrArg Value.bool (eQ ?_),S.ax pD⟩;rw[hr,j3 hx]
      first
      |(rw[decide_eq_false (show¬last<d by omega)];simp;done)
      |(rw[decide_eq_false (show¬d<2147483648 by omega)];simp;done)
      |(rw[show ps=[]from gm.1 (by omega)];simp;done)
      |(simp[c5];done)
     ·refine ak rfl rfl ?_;refine aM (M:=M) (A:=RT.po) (B:=(RT.int .i64).sl) bO rfl rfl lI (by decide) (PB) rfl rfl (by decide) (by assumption) (by repeat (first|exact aq _ _|refine aU (bm (by assumption)) ?_)) (fun abk XQ=>?_);refine ak rfl rfl ?_;refine bZ (M:=M) ar rfl rfl rfl rfl rfl (by assumption) (by repeat (first|exact aq _ _|refine aU (bm (by assumption)) ?_)) (fun abl NN=>?_);refine ak rfl rfl ?_;refine aJ rfl rfl Ve (Ao NN) (fun r5 w5 h5=>?_);obtain⟨rfl,rfl⟩:=h5;refine ak rfl rfl (km rfl rfl (br (v':= .bool (decide (¬lS ps=true))) (by simp) (av rfl rfl rfl (ab ?_))));refine bK rfl (fun c5=>?_) (fun c5=>?_)
      ·refine ai (ad (ah rfl rfl (ab (aI ?_))));refine aO rfl rfl ⟨congrArg Value.bool (eQ ?_),S.ax pD⟩;rw[hr,j3 hx]
       first
       |(rw[decide_eq_false (show¬last<d by omega)];simp;done)
       |(rw[decide_eq_false (show¬d<2147483648 by omega)];simp;done)
       |(rw[show ps=[]from gm.1 (by omega)];simp;done)
       |(simp[c5];done)
      ·refine aT (ad ?_);refine aM (M:=M) (A:=RT.po) (B:=RT.int .i64) bO rfl rfl I3 (by decide) (HV) rfl rfl (by decide) (by assumption) (by repeat (first|exact aq _ _|refine aU (bm (by assumption)) ?_)) (fun QI CR=>?_);refine cn (M:=M) an rfl rfl CR (aq _ _) (fun abm=>?_);refine br (v':= .int .i64 d) rfl (ah rfl rfl (ab (ad (bA rfl rfl rfl (by omega) (ae rfl rfl (ab ?_))))));refine⟨rfl,(k+1,d),(.cons rfl (.cons rfl (.cons rfl (.cons rfl .nil)))),?_,?_⟩
       ·refine⟨S.ax pD,by simp only;omega,?_⟩
        have eD:ps.isEmpty=false:=by cases ps with
         |nil=>simp at KO
         |cons a t=>rfl
        rw[hr,j3 hx,decide_eq_true (show last<d by omega),decide_eq_true (show d<2147483648 by omega),eD,fp.1 c5];rfl
       ·simp only;omega
  ·refine cB (ai (ad (ah rfl rfl (ab (aI ?_)))));refine aO rfl rfl ⟨congrArg Value.bool (eQ ?_),S⟩;rw[hr,dL (by omega)];rfl
theorem B2 {M:aD} {w0:World} {v:Value} {l:List Po} (hM:Lt M w0) (hv:((RT.po).sl).V M w0 l v):
  Spec Tryz.prog 194 #[v,.int .i64 8] w0 (fun v' w'=>∃bs bn,v'= .func (.func 250) [].toArray [.pointer (some ⟨bs,0,none⟩),.pointer (some ⟨bn,0,none⟩)].toArray∧w'.heap[bs]? =some (.cells #[v] 80 (0,0))∧w'.heap[bn]? =some (.cells #[.int .i64 8] 3 (0,0))∧w0.heap.size≤bs∧w0.heap.size≤bn∧Step M w0 M w' aw):=by
 refine aR (args:=[_,_]) (fn:=Tryz.f194) Tryz.func194 rfl (n:=9) Tryz.ntmps194 (ai (ad ?_));refine iJ M rfl rfl (fun bs w1 h1 LF hS s1=>?_);rw[jc hv]at hS;refine iJ (ins M bs) rfl rfl (fun bn w2 h2 xn hN s2=>?_);have hS2:=s2.aE hS;have hz1:=s1.size;refine ah rfl rfl (ab (ai (ai (ad (az an rfl rfl rfl hN rfl (bY rfl rfl rfl (ab (mC rfl ((by decide)) (aT (ai (ad ?_)))))))))));refine gG (xs:=[]) (ys:=[.tmp 2,.tmp 3]) rfl rfl rfl (ah rfl rfl (ab (aI ?_)));exact aO rfl rfl ⟨bs,bn,rfl,hS2,hN,h1,by omega,(s1.ax s2).back⟩
theorem Ap {w0:World} {bs bn yl:Nat} {v:Value} {l:List Po} {M:aD} {wv:World} {J:Nat→World→Prop} {Jx:World→Prop} (hv:((RT.po).sl).V M wv l v) (iI:∀i w w',J i w→Step aw w aw w' aw→J i w') (Jq:∀i w,J i w→w.heap[bs]? =some (.cells #[v] 80 (0,0))∧w.heap[bn]? =some (.cells #[.int .i64 8] 3 (0,0))) (hy:∀(i:Nat) (w:World) (u:Value),J i w→i<l.length→((RT.po).sl).V M wv ((l.drop i).take 8) u→su Tryz.prog yl [u].toArray w (fun r w'=>∃b,r= .bool b∧(b=true→J (min (i+8) l.length) w')∧(b=false→Jx w'))) (h0:J 0 w0):
  Spec Tryz.prog 250 #[.func (.yield yl) #[] #[],.pointer (some ⟨bs,0,none⟩),.pointer (some ⟨bn,0,none⟩)] w0 (fun _ w'=>J l.length w'∨Jx w'):=by
 have hlen:=eR hv;refine aR (args:=[_,_,_]) (fn:=Tryz.f250) Tryz.func250 rfl (n:=31) Tryz.ntmps250 (ai (ad (ah rfl rfl (ab (a7 ?_)))));refine dd (σ:=Nat) (fun s=>[(0,.func (.yield yl) #[] #[]),(1,.pointer (some ⟨bs,0,none⟩)),(2,.pointer (some ⟨bn,0,none⟩)),(4,.int .i64 s)]) (fun s w=>J (min s l.length) w∧s≤l.length+8) (fun s=>l.length+8-s) 0 (.cons rfl (.cons rfl (.cons rfl (.cons rfl .nil)))) ?_ ?_
 ·exact⟨by rw[Nat.zero_min];exact h0,bG _⟩
 ·rintro k w1 ⟨hJ,hk⟩;obtain⟨py,AU⟩:=Jq _ _ hJ;refine ai (ai (ad (ae rfl rfl (az a8 rfl rfl rfl py rfl ?_))))
  first|refine bM a8 rfl (by assumption) rfl ?_|refine gN a8 rfl (by assumption) rfl ?_
  refine bY rfl rfl rfl (ab ?_);refine bK rfl (fun c1=>?_) (fun c1=>?_)
  ·refine aT (ai (a7 (ai ?_)));apply T.draw (M:=aw) mixed [b5.eq _,b5.eq _,b5.eq _,b5.pure (fun v=>((RT.po).sl).V M wv (l.drop k) v),b5.eq _,b5.eq _,b5.eq _]
   ·rfl
   ·refine aQ ?_ ?_
    ·intro wD E sD;refine az an rfl rfl rfl (bQ sD AU) rfl ?_;exact ab ⟨rfl,rfl,_,rfl,rfl,al _ _⟩
    refine aQ ?_ ?_
    ·intro wD E sD;refine az a8 rfl rfl rfl (bQ sD py) rfl ?_;exact ab ⟨rfl,rfl,_,rfl,rfl,al _ _⟩
    refine aQ ?_ ?_
    ·intro wD E sD;refine ae rfl rfl ?_;exact ab ⟨rfl,rfl,_,rfl,rfl,al _ _⟩
    refine aQ ?_ ?_
    ·intro wD E sD;refine ay (ay ?_);refine Rg.xm (A:=RT.po) (hn:=by decide) a8 ni rfl rfl rfl hv (by omega) (fun u hu=>?_);rw[aG]at hu;exact ab ⟨rfl,rfl,_,rfl,hu,al _ _⟩
    refine aQ ?_ ?_
    ·intro wD E sD;intro v3 uT;have XR:((RT.po).sl).V M wv (l.drop k) v3:=uT;refine bM a8 rfl XR rfl ?_;exact ab ⟨rfl,rfl,_,rfl,rfl,al _ _⟩
    refine aQ ?_ ?_
    ·intro wD E sD;refine ay (ay (Rg.min2 rfl rfl rfl ?_));exact ab ⟨rfl,rfl,_,rfl,rfl,al _ _⟩
    refine aQ ?_ ?_
    ·intro wD E sD;refine ay (ay (ay (ay ?_)));intro v3 uT;refine ay (ay (ah rfl rfl ?_));exact ab ⟨rfl,rfl,_,rfl,rfl,al _ _⟩
    exact cb.nil
   ·intro Qk mE;refine ay (ay (ay ?_));intro RH KM;refine ay (ay (ay ?_));rw[show min k l.length=k from by omega]at hJ;have HZ:=iI _ _ _ hJ mE;obtain⟨hb3,Jr⟩:=Jq _ _ HZ;refine ai (ad (ae rfl rfl (az a8 rfl rfl rfl hb3 rfl (ae rfl rfl (ae rfl rfl (ae rfl rfl (bA rfl rfl rfl (by omega) (ae rfl rfl (ae rfl rfl (bA rfl rfl rfl (by omega) ?_))))))))));refine Rg.Dx (A:=RT.po) (hn:=by decide) a8 ni rfl rfl rfl rfl rfl hv (by rw[cT];omega) (fun u hu=>?_)
    have he:(l.take ((k:Int)+min 8 ((l.drop k).length:Int)).toNat).drop (k:Int).toNat=(l.drop k).take 8:=by
     rw[aG,List.drop_take,cT,show((k:Int)+min 8 ((l.length-k:Nat):Int)).toNat-k=min 8 (l.length-k)from by omega,List.take_eq_take_iff,cT];omega
    rw[he]at hu;refine Rg.yield rfl (vs:=[u]) rfl rfl (hy k _ u HZ (by omega) hu) (fun r4 w4 h4=>?_);obtain⟨b,rfl,ON,nV⟩:=h4;refine km rfl rfl (br (v':= .bool (decide (¬b=true))) (by simp) (ab ?_));refine bK rfl (fun c4=>?_) (fun c4=>?_)
    ·refine aI ?_;exact Cn rfl (.inr (nV (by simpa using c4)))
    ·refine aT (ad (ae rfl rfl ?_));have hJ5:=ON (fp.1 c4);refine az an rfl rfl rfl (Jq _ _ hJ5).2 rfl (bA rfl rfl rfl (by omega) (ah rfl rfl (ab ?_)));refine⟨rfl,k+8,(.cons rfl (.cons rfl (.cons rfl (.cons rfl .nil)))),?_,?_⟩
     ·exact⟨hJ5,by omega⟩
     ·show l.length+8-(k+8)<l.length+8-k;omega
  ·refine cB ?_;rw[show min k l.length=l.length from by omega]at hJ;change xi Tryz.prog Tryz.f250 (fun _ w'=>J l.length w'∨Jx w') .normal _ [] _;exact jx rfl (.inl hJ)
end Go.K
namespace Go.K
open Go.Proofs
set_option maxRecDepth 10000
structure kT (M:aD) (w0:World) (v:Value) (bo bx bl D bs bn:Nat) (st:Obj) (vb vk:Value) (tot last:Int) (b:List UInt8) (ks:List Bl) (M1:aD) (w:World):Prop where
 lt:Lt M1 w
 S:Step M w0 M1 w aw
 mo:M1 bo
 mx:M1 bx
 ml:M1 bl
 md:M1 D
 mr:M1 (D+1)
 o:w.heap[bo]? =some (.cells #[.pointer (some ⟨bx,0,none⟩)] 142 (0,0))
 x:w.heap[bx]? =some (.cells #[vb,vk,.int .i64 tot] 207 (0,0))
 l:w.heap[bl]? =some (.cells #[.int .i64 last] 3 (0,0))
 d:w.heap[D]? =some (.deferred (some []))
 r:w.heap[D+1]? =some st
 s:w.heap[bs]? =some (.cells #[v] 80 (0,0))
 n:w.heap[bn]? =some (.cells #[.int .i64 8] 3 (0,0))
 ne:bo≠bx∧bo≠bl∧bx≠bl∧bo<D∧bx<D∧bl<D∧bs<D∧bn<D∧bs≠bo∧bs≠bx∧bs≠bl∧bn≠bo∧bn≠bx∧bn≠bl∧w0.heap.size≤bo∧w0.heap.size≤bx∧w0.heap.size≤bl∧w0.heap.size≤D
 hb:(RT.u8.sl).V M1 w b vb
 hk:Own RT.bl 209 M1 w (D+2) vk ks
section
variable {M M1 M2:aD} {w0 w w':World} {v vb vk:Value} {bo bx bl D bs bn:Nat} {st:Obj} {tot last:Int} {b:List UInt8} {ks:List Bl}
theorem kT.step (h:kT M w0 v bo bx bl D bs bn st vb vk tot last b ks M1 w) (s:Step M1 w M2 w' aw):kT M w0 v bo bx bl D bs bn st vb vk tot last b ks M2 w':=
 ⟨s.lt h.lt,h.S.ax s,(s.mem _ (h.lt _ h.mo)).2 h.mo,(s.mem _ (h.lt _ h.mx)).2 h.mx,(s.mem _ (h.lt _ h.ml)).2 h.ml,(s.mem _ (h.lt _ h.md)).2 h.md,(s.mem _ (h.lt _ h.mr)).2 h.mr,
  s.aE h.o,s.aE h.x,s.aE h.l,s.aE h.d,s.aE h.r,s.aE h.s,s.aE h.n,h.ne,h.hb.le s.le,h.hk.aW s⟩
theorem kT.Js {n:Int} (h:kT M w0 v bo bx bl D bs bn st vb vk tot last b ks M1 w) (s:Step M1 w M1 w' (fun k=>k=bl)) (hl:w'.heap[bl]? =some (.cells #[.int .i64 n] 3 (0,0))):kT M w0 v bo bx bl D bs bn st vb vk tot n b ks M1 w':=by
 obtain⟨e1,e2,e3,e4,e5,e6,e7,e8,e9,O2,RS,KP,O3,RU,TV,O4,RV,TW⟩:=h.ne
 exact⟨s.lt h.lt,h.S.cO s (fun k hk=>by subst hk;exact RV),h.mo,h.mx,h.ml,h.md,h.mr,s.bB h.o e2,s.bB h.x e3,hl,s.bB h.d (by omega),s.bB h.r (by omega),s.bB h.s RS,s.bB h.n RU,h.ne,h.hb.le s.le,
  h.hk.step s (fun k hk hh=>by have:=(h.hk.base k hk).1;omega)⟩
theorem kT.NO {XS NP:Value} {RW:Int} {b':List UInt8} {RX:List Bl} (h:kT M w0 v bo bx bl D bs bn st vb vk tot last b ks M1 w) (s:Step M1 w M1 w' (fun k=>k=bx)) (hx:w'.heap[bx]? =some (.cells #[XS,NP,.int .i64 RW] 207 (0,0)))
  (hb:(RT.u8.sl).V M1 w' b' XS) (hk:Own RT.bl 209 M1 w (D+2) NP RX):kT M w0 v bo bx bl D bs bn st XS NP RW last b' RX M1 w':=by
 obtain⟨e1,e2,e3,e4,e5,e6,e7,e8,e9,O2,RS,KP,O3,RU,TV,O4,RV,TW⟩:=h.ne
 exact⟨s.lt h.lt,h.S.cO s (fun k hk=>by subst hk;exact O4),h.mo,h.mx,h.ml,h.md,h.mr,s.bB h.o e1,hx,s.bB h.l (Ne.symm e3),s.bB h.d (by omega),s.bB h.r (by omega),s.bB h.s O2,s.bB h.n O3,h.ne,hb,
  hk.step s (fun k sm hh=>by have:=(hk.base k sm).1;omega)⟩
theorem kT.tJ {st':Obj} (h:kT M w0 v bo bx bl D bs bn st vb vk tot last b ks M1 w) (iI:w.heap[D+1]? =some st):kT M w0 v bo bx bl D bs bn st' vb vk tot last b ks M1 (w.putObj (D+1) st'):=by
 have s:Step M1 w M1 (w.putObj (D+1) st') (fun k=>k=D+1):=fA h.mr;obtain⟨e1,e2,e3,e4,e5,e6,e7,e8,e9,O2,RS,KP,O3,RU,TV,O4,RV,TW⟩:=h.ne
 exact⟨s.lt h.lt,h.S.cO s (fun k hk=>by subst hk;omega),h.mo,h.mx,h.ml,h.md,h.mr,s.bB h.o (by omega),s.bB h.x (by omega),s.bB h.l (by omega),s.bB h.d (by omega),World.putObj_heap_same (aj iI),s.bB h.s (by omega),s.bB h.n (by omega),h.ne,h.hb.le s.le,
  h.hk.step s (fun k sm hh=>by have:=(h.hk.base k sm).1;omega)⟩
theorem kT.other {q:Nat} (h:kT M w0 v bo bx bl D bs bn st vb vk tot last b ks M1 w) (s:Step M1 w M1 w' (fun k=>k=q)) (hq:D+1<q) (TX:∀k,vk.ownBlock=some k→k≠q):kT M w0 v bo bx bl D bs bn st vb vk tot last b ks M1 w':=by
 obtain⟨e1,e2,e3,e4,e5,e6,e7,e8,e9,O2,RS,KP,O3,RU,TV,O4,RV,TW⟩:=h.ne
 exact⟨s.lt h.lt,h.S.cO s (fun k hk=>by subst hk;omega),h.mo,h.mx,h.ml,h.md,h.mr,s.bB h.o (by omega),s.bB h.x (by omega),s.bB h.l (by omega),s.bB h.d (by omega),s.bB h.r (by omega),s.bB h.s (by omega),s.bB h.n (by omega),h.ne,h.hb.le s.le,
  h.hk.step s (fun k sm hh=>TX k sm hh)⟩
theorem kT.grow {NP:Value} {RX:List Bl} (h:kT M w0 v bo bx bl D bs bn st vb vk tot last b ks M1 w) (s:Step M1 w M2 w' (fun k=>vk.ownBlock=some k)) (hk:Own RT.bl 209 M2 w' (D+2) NP RX):
  (w'.heap[bx]? =some (.cells #[vb,vk,.int .i64 tot] 207 (0,0))∧M2 bx∧Lt M2 w')∧∀{w2:World},Step M2 w' M2 w2 (fun k=>k=bx)→w2.heap[bx]? =some (.cells #[vb,NP,.int .i64 tot] 207 (0,0))→kT M w0 v bo bx bl D bs bn st vb NP tot last b RX M2 w2:=by
 obtain⟨e1,e2,e3,e4,e5,e6,e7,e8,e9,O2,RS,KP,O3,RU,TV,O4,RV,TW⟩:=h.ne;have hn:∀k,vk.ownBlock=some k→D+2≤k:=fun k hk=>(h.hk.base k hk).1
 have eo:=fun {k:Nat} (hm:M1 k)=>(s.mem k (h.lt k hm)).2 hm
 refine⟨⟨s.bB h.x (fun hh=>by have:=hn _ hh;omega),eo h.mx,s.lt h.lt⟩,fun {w2} s2 hx=>?_⟩;have S':=h.S.cO s (fun k hk=>by have:=hn k hk;omega)
 exact⟨s2.lt (s.lt h.lt),S'.cO s2 (fun k hk=>by subst hk;exact O4),eo h.mo,eo h.mx,eo h.ml,eo h.md,eo h.mr,s2.bB (s.bB h.o (fun hh=>by have:=hn _ hh;omega)) e1,hx,s2.bB (s.bB h.l (fun hh=>by have:=hn _ hh;omega)) (Ne.symm e3),
  s2.bB (s.bB h.d (fun hh=>by have:=hn _ hh;omega)) (by omega),s2.bB (s.bB h.r (fun hh=>by have:=hn _ hh;omega)) (by omega),s2.bB (s.bB h.s (fun hh=>by have:=hn _ hh;omega)) O2,s2.bB (s.bB h.n (fun hh=>by have:=hn _ hh;omega)) O3,h.ne,(h.hb.le s.le).le s2.le,
  hk.step s2 (fun k sm hh=>by have:=(hk.base k sm).1;omega)⟩
end
def Hn (M:aD) (w0:World) (l:List Po) (v:Value) (bo bx bl D bs bn:Nat) (st:Obj) (i:Nat) (w:World):Prop:=
 ∃(M1:aD) (vb vk:Value),kT M w0 v bo bx bl D bs bn st vb vk (gA (l.take i)) (bW (-1) (l.take i)) (dz (-1) (l.take i)) (mD l ((i+7)/8)) M1 w∧(i%8=0∨i=l.length)∧i≤l.length
theorem NQ {M:aD} {w0 w2 w3 w5 w6 w7:World} {v:Value} {l:List Po} {bo bx bl bs bn:Nat} {st:Obj} (S6:Step M w0 (ins (ins (ins M bx) bo) bl) w6 aw) (s7:Step (ins (ins (ins M bx) bo) bl) w6 (ins (ins (ins M bx) bo) bl) w7 aw) (hM:Lt M w0)
  (e1:bo<w6.heap.size) (e2:bx<w6.heap.size) (e3:bl<w6.heap.size) (n1:bo≠bx) (n2:bo≠bl) (n3:bx≠bl)
  (hO:w6.heap[bo]? =some (.cells #[.pointer (some ⟨bx,0,none⟩)] 142 (0,0))) (hX:w6.heap[bx]? =some (.cells #[.slice none 0 0,.slice none 0 0,.int .i64 0] 207 (0,0))) (hL:w6.heap[bl]? =some (.cells #[.int .i64 (-1)] 3 (0,0)))
  (hS:w7.heap[bs]? =some (.cells #[v] 80 (0,0))) (hN:w7.heap[bn]? =some (.cells #[.int .i64 8] 3 (0,0))) (XT:w6.heap.size≤bs) (Th:w6.heap.size≤bn)
  (g1:w0.heap.size≤bo) (g2:w0.heap.size≤bx) (g3:w0.heap.size≤bl):
  Hn M w0 l v bo bx bl w7.heap.size bs bn st 0 ((w7.alloc (.deferred (some []))).alloc st):=by
 have sA:Step (ins (ins (ins M bx) bo) bl) w7 (ins (ins (ins (ins M bx) bo) bl) w7.heap.size) (w7.alloc (.deferred (some []))) aw:=(cL _ w7 _).own (aZ _) (by simp);have sB:Step (ins (ins (ins (ins M bx) bo) bl) w7.heap.size) (w7.alloc (.deferred (some []))) (ins (ins (ins (ins (ins M bx) bo) bl) w7.heap.size) (w7.heap.size+1)) ((w7.alloc (.deferred (some []))).alloc st) aw:=(cL _ _ _).own (by simp) (by simp);have z7:=s7.size;have XU:=aj hS;have hn7:=aj hN;have S:=((S6.ax s7).ax sA).ax sB;have hD:(w7.alloc (.deferred (some []))).heap[w7.heap.size]? =some (.deferred (some [])):=cu w7 _;have hR:((w7.alloc (.deferred (some []))).alloc st).heap[w7.heap.size+1]? =some st:=by have:=cu (w7.alloc (.deferred (some []))) st;rwa [World.size_alloc]at this
 have z0:=S6.size;refine⟨_,.slice none 0 0,.slice none 0 0,⟨S.lt hM,S,?_,?_,?_,?_,.inl rfl,sB.aE (sA.aE (s7.aE hO)),sB.aE (sA.aE (s7.aE hX)),sB.aE (sA.aE (s7.aE hL)),sB.aE hD,hR,sB.aE (sA.aE hS),sB.aE (sA.aE hN),by omega,fZ,eh _ _ _ _ _⟩,.inl rfl,bG _⟩
 ·exact .inr (.inr (.inr (.inl rfl)))
 ·exact .inr (.inr (.inr (.inr (.inl rfl))))
 ·exact .inr (.inr (.inl rfl))
 ·exact .inr (.inl rfl)
set_option maxHeartbeats 4000000 in
theorem qJ {M:aD} {w0:World} {v:Value} {l:List Po} (hM:Lt M w0) (hv:((RT.po).sl).V M w0 l v) (iK:∀p∈l,p.2.length≤1099511627776) (AT:(dz (-1) l).length≤35184372088832) (Ls:l.length≤1099511627776) (afg:gA l≤4611686018427387904):
  Spec Tryz.prog 145 #[v] w0 (fun v' w'=>Step M w0 M w' aw∧(dY (-1) l=true→∃p,v'= .tuple #[p,.int .i64 0]∧cf RT.li M w' p (hG l))∧(dY (-1) l=false→v'= .tuple #[.pointer none,.int .i64 1])):=by
 have hlen:=eR hv;refine sz (args:=[_]) (fn:=Tryz.f145) Tryz.func145 rfl (n:=85) Tryz.ntmps145 (ai (ad (ah rfl rfl (ah rfl rfl (ab (ai (ai (ad (ae rfl rfl ?_)))))))));refine aJ rfl rfl U4 (Ek hM hv) (fun r w1 h1=>?_);obtain⟨rfl,s1⟩:=h1;refine km rfl rfl (br (v':= .bool (decide (¬dY (-1) l=true))) (by simp) (ab ?_));refine bK rfl (fun c1=>?_) (fun c1=>?_)
 ·refine ai (ad (ah rfl rfl (ah rfl rfl (ab (aI ?_)))));exact Il rfl rfl rfl ⟨s1,fun h=>absurd h c1,fun _=>rfl⟩
 ·have tZ:=fp.1 c1;refine aT (ai (ad (dO (places:=[(0,1),(1,1),(2,1)]) dw UK UM rfl rfl (out:=[.slice none 0 0,.slice none 0 0,.int .i64 0]) rfl ?_)));refine iJ M rfl rfl (fun bx w2 Jq afh hX s2=>?_);change w2.heap[bx]? =some (.cells #[.slice none 0 0,.slice none 0 0,.int .i64 0] 207 (0,0))at hX;refine ew (ins M bx) oN rfl (fun bo w3 hbo afi hO s3=>?_);refine bL (M:=ins (ins M bx) bo) oN rfl rfl hO rfl rfl (.inl rfl) (fun w4 hO4 s4=>?_);refine ab (ai (ad ?_));refine ew (ins (ins M bx) bo) I3 rfl (fun bl w5 afk abp hL s5=>?_);refine bL (M:=ins (ins (ins M bx) bo) bl) I3 rfl rfl hL rfl rfl (.inl rfl) (fun w6 hL6 s6=>?_);have z1:=s1.size;have z2:=s2.size;have z3:=s3.size;have z4:=s4.size;have z5:=s5.size;have z6:=s6.size;have S6:Step M w0 (ins (ins (ins M bx) bo) bl) w6 aw:=((((s1.ax s2).ax s3).cO s4 (fun k hk=>by subst hk;omega)).ax s5).cO s6 (fun k hk=>by subst hk;omega);have hO6:=s6.bB (s5.aE hO4) (show bo≠bl by omega);have hX6:=s6.bB (s5.aE (s4.bB (s3.aE hX) (show bx≠bo by omega))) (show bx≠bl by omega);refine ab (ai (ai (ad (ae rfl rfl ?_))));refine aJ rfl rfl U5 (B2 (M:=ins (ins (ins M bx) bo) bl) (S6.lt hM) (hv.le S6.le)) (fun r w7 h7=>?_);obtain⟨bs,bn,rfl,hS7,hN7,XT,Th,s7⟩:=h7;have z7:=s7.size;have afo:=aj hS7;have afp:=aj hN7;refine ab (a7 ?_);refine T.range (gf:=250) (lb:=[.pointer (some ⟨bs,0,none⟩),.pointer (some ⟨bn,0,none⟩)].toArray) rfl Vf (fun rec sy=>?_);obtain⟨D,hD⟩:∃D,D=w7.heap.size:=⟨_,rfl⟩;rw[←hD]at sy ⊢
  have h0:Hn M w0 l v bo bx bl D bs bn (.loop (rec .ready none)) 0 ((w7.alloc (.deferred (some []))).alloc (.loop (rec .ready none))):=by
   rw[hD]at sy ⊢;exact NQ (w2:=w7) (w3:=w7) (w5:=w7) S6 s7 hM (by omega) (by omega) (by omega) (by omega) (by omega) (by omega) hO6 hX6 hL6 hS7 hN7 XT Th (by omega) (by omega) (by omega)
  refine Spec.mono (Ap (M:=M) (wv:=w0) (J:=Hn M w0 l v bo bx bl D bs bn (.loop (rec .ready none))) (Jx:=fun _=>False) hv (fun i w w' ⟨M1,vb,vk,h,h2⟩ s=>⟨M1,vb,vk,h.step (s.any M1),h2⟩) (fun i w ⟨M1,vb,vk,h,h2⟩=>⟨h.s,h.n⟩) (fun i wr u hJ hi hu=>?_) h0) (fun _ w3 h3=>?_)
  ·obtain⟨M1,vb,vk,h,hi8,mQ⟩:=hJ;refine qk (ps:=[17]) (vs:=[u]) sy h.r rfl (by decide) (ad (ah rfl rfl (ab ?_)));refine⟨rfl,h.r,?_⟩;have h1:=h.tJ (st':= .loop (rec .busy none)) h.r;generalize wr.putObj (D+1) _=wB at h1 ⊢;have hO:=h1.o;have hX:=h1.x;have hL:=h1.l;have hB:=h1.hb;have dA:=h1.lt;have qf:((l.drop i).take 8).length≤8:=by rw[bS];omega
   have afq:((l.drop i).take 8).length=min 8 (l.length-i):=by rw[bS,cT]
   obtain⟨q1,q2,q3,q4,q5,q6,q7,q8,q9,q10,q11,q12,q13,q14,q15,q16,q17,q18⟩:=h1.ne;refine a7 (ai ?_);apply T.Cv (M:=M1) (n:=85) _ mixed [] [b5.eq _,b5.eq _,b5.eq _,b5.eq _,b5.eq _,b5.eq _,b5.eq _,b5.eq _,b5.eq _,b5.mk' (fun p w'=>∃bq,p= .pointer (some ⟨bq,0,none⟩)∧wB.heap.size≤bq∧w'.heap[bq]? =some (.cells #[.int .i64 0,.int .i64 0,.int .i64 0,.int .i64 0] 209 (0,0))) (fun⟨bq,h1,h2,h3⟩ s=>⟨bq,h1,h2,s.aE h3⟩)]
   ·rfl
   ·rfl
   ·rfl
   ·rfl
   ·exact fun p hp=>by cases hp
   ·exact rA.none
   ·refine aH ?_ ?_
    ·intro wD E sD;refine az cF rfl rfl rfl (bQ sD (by assumption)) rfl ?_;exact ab ⟨rfl,rfl,_,rfl,rfl,al _ _⟩
    refine aH ?_ ?_
    ·intro wD E sD;refine ay (aC rfl ⟨_,rfl⟩ rfl ?_);exact ab ⟨rfl,rfl,_,rfl,rfl,al _ _⟩
    refine aH ?_ ?_
    ·intro wD E sD;refine ay (aB dw rfl rfl y4 (by decide) rfl rfl ?_);exact ab ⟨rfl,rfl,_,rfl,rfl,al _ _⟩
    refine aH ?_ ?_
    ·intro wD E sD;refine ay (az bp rfl rfl rfl (bQ sD (by assumption)) rfl ?_);exact ab ⟨rfl,rfl,_,rfl,rfl,al _ _⟩
    refine aH ?_ ?_
    ·intro wD E sD;refine ay ?_
     first|refine bM bp rfl (by assumption) rfl ?_|refine gN bp rfl (by assumption) rfl ?_
     exact ab ⟨rfl,rfl,_,rfl,rfl,al _ _⟩
    refine aH ?_ ?_
    ·intro wD E sD;refine az an rfl rfl rfl (bQ sD (by assumption)) rfl ?_;exact ab ⟨rfl,rfl,_,rfl,rfl,al _ _⟩
    refine aH ?_ ?_
    ·intro wD E sD;refine ae rfl rfl ?_;exact ab ⟨rfl,rfl,_,rfl,rfl,al _ _⟩
    refine aH ?_ ?_
    ·intro wD E sD;refine ay ?_
     first|refine bM a8 rfl (by assumption) rfl ?_|refine gN a8 rfl (by assumption) rfl ?_
     exact ab ⟨rfl,rfl,_,rfl,rfl,al _ _⟩
    refine aH ?_ ?_
    ·intro wD E sD;refine ay (ay (ay (dO (places:=[(0,1),(1,1),(2,1),(3,1)]) jM uH UN rfl ⟨_,_,rfl,rfl,_,_,rfl,rfl,_,_,rfl,rfl,rfl⟩ (out:=[.int .i64 (dz (-1) (l.take i)).length,.int .i64 (bW (-1) (l.take i)),.int .i64 0,.int .i64 ((l.drop i).take 8).length]) ⟨0,[_],rfl,rfl,by simp[Value.cells],1,[_],rfl,rfl,by simp[Value.cells],3,[_],rfl,rfl,by simp[Value.cells],rfl⟩ ?_)));exact ab ⟨rfl,rfl,_,rfl,rfl,al _ _⟩
    refine aH ?_ ?_
    ·intro wD E sD;refine ew M1 uH rfl (fun bq wq e1 e2 e3 s=>?_);exact ab ⟨rfl,rfl,_,rfl,⟨bq,rfl,fS sD.size e1,e3⟩,s.back⟩
    exact bE.nil
   ·intro wD7 sD7;refine ay (ay (ay (ay (ay (ay (ay (ay (ay ?_))))))));intro afC RY;obtain⟨bq,rfl,Lw,Uy⟩:=RY;have JZ:=aj Uy;have sQ:Step M1 wB (ins M1 bq) wD7 aw:=sD7.own Lw JZ;refine eP (M:=ins M1 bq) (vs:=[.int .i64 (dz (-1) (l.take i)).length,.int .i64 (bW (-1) (l.take i)),.int .i64 0,.int .i64 ((l.drop i).take 8).length]) uH rfl rfl (by intro x hx;simp at hx;rcases hx with rfl|rfl|rfl|rfl<;>rfl) rfl rfl Uy (.inl rfl) (fun wQ hQ sQ2=>?_);refine ab ⟨rfl,?_⟩;have h2:=h1.step (sQ.cO sQ2 (fun k hk=>by subst hk;exact Lw));have TX:∀k,vk.ownBlock=some k→k≠bq:=fun k hk=>by have:=(h1.hk.base k hk).2;omega
    have Uz:D+1<bq:=by have:=aj h1.r;omega
    have h3:kT M w0 v bo bx bl D bs bn (.loop (rec .busy none)) vb vk (gA (l.take (i+0))) (bW (-1) (l.take (i+0))) (dz (-1) (l.take (i+0))) (mD l ((i+7)/8)) (ins M1 bq) wQ:=h2;obtain⟨M2,Kj⟩:∃M2,M2=ins M1 bq:=⟨_,rfl⟩;rw[←Kj]at h3;refine ai (ai (ad (ae rfl rfl ?_)))
    first|refine bM a8 rfl (by assumption) rfl ?_|refine gN a8 rfl (by assumption) rfl ?_
    refine ae rfl rfl (ab (a7 ?_));refine dd (σ:=Nat×Value) (fun s=>[(4,.pointer (some ⟨bo,0,none⟩)),(5,.pointer (some ⟨bl,0,none⟩)),(6,u),(7,.pointer (some ⟨bq,0,none⟩)),(27,u),(28,.int .i64 ((l.drop i).take 8).length),(29,.int .i64 s.1)]) (fun s w=>s.1≤((l.drop i).take 8).length∧w.heap[bq]? =some (.cells #[.int .i64 (dz (-1) (l.take i)).length,.int .i64 (bW (-1) (l.take i)),.int .i64 0,.int .i64 ((l.drop i).take 8).length] 209 (0,0))∧kT M w0 v bo bx bl D bs bn (.loop (rec .busy none)) s.2 vk (gA (l.take (i+s.1))) (bW (-1) (l.take (i+s.1))) (dz (-1) (l.take (i+s.1))) (mD l ((i+7)/8)) M2 w) (fun s=>((l.drop i).take 8).length-s.1) (0,vb) (.cons rfl (.cons rfl (.cons rfl (.cons rfl (.cons rfl (.cons rfl (.cons rfl .nil))))))) ?_ ?_
    ·exact⟨bG _,hQ,h3⟩
    ·rintro⟨j,vb⟩ wj ⟨hj,hQ,h4⟩;dsimp only at hj hQ h4 ⊢;have dA:=h4.lt;refine ai (ad (bY rfl rfl rfl (ab (ai ?_))));refine bK rfl (fun c9=>?_) (fun c9=>?_)
     ·refine aT (ai (a7 (ai (ad ?_))));obtain⟨⟨d,ps⟩,hx⟩:∃x,l[i+j]? =some x:=⟨_,aK (by omega)⟩;obtain⟨f1,f2,f3,f4,f5,f6⟩:=mX tZ hx;obtain⟨f7,f8⟩:=lT.1 f4;have fps:=iK _ (aN hx);have fb:=kP l (i+j);have ft:=yU l (i+j);have ft2:=yU l (i+j+1);rw[sK hx]at ft2;have ftk:=sJ (-1) hx;have ftl:=kP l (i+j+1);simp only at fps;refine dq (M:=M2) a8 ni rfl rfl rfl (hu.le h4.S.le) (aq _ _) (by omega) (fun QE RZ NR MG=>?_);obtain rfl:(d,ps)=RZ:=eQ (bU (NR.symm.trans (by rw[aG,dm,if_pos (by omega),List.getElem?_drop];exact hx)));refine cM (M:=M2) (A:=RT.po) bO rfl ni (by decide) rfl rfl rfl (by assumption) (by repeat (first|exact aq _ _|refine aU (bm (by assumption)) ?_)) (fun QF F3=>?_);refine rI (A:=RT.po) (M:=M2) ni rfl rfl rfl rfl rfl (by assumption) (by repeat (first|exact aq _ _|refine aU (bm (by assumption)) ?_)) (by first|assumption|exact Step.lt (by assumption) (by assumption)|exact Step.lt (by assumption) (Step.lt (by assumption) (by assumption))) (fun R0 R1 qK pT R2=>?_);refine ab (ai ?_);have h5:=h4.step pT;have hO:=h5.o;have hX:=h5.x;have hL:=h5.l;have hB:=h5.hb;have dA:=h5.lt;have hp0:=qK;apply T.Cv (M:=M2) (n:=85) _ mixed [] [b5.eq _,b5.eq _,b5.eq _,b5.eq _,b5.eq _,b5.ptr (RT.int .i64) d,b5.eq (.int .i64 d),b5.eq _,b5.eq _,b5.eq (.int .i64 (((d-bW (-1) (l.take (i+j))-1).toNat:Nat):Int)),b5.V (RT.u8.sl) (dz (-1) (l.take (i+j))++put (d-bW (-1) (l.take (i+j))-1).toNat),b5.eq _,b5.eq _]
      ·rfl
      ·rfl
      ·rfl
      ·rfl
      ·exact fun p hp=>by cases hp
      ·exact rA.none
      ·refine aH ?_ ?_
       ·intro wD E sD;refine az cF rfl rfl rfl (bQ sD (by assumption)) rfl ?_;exact ab ⟨rfl,rfl,_,rfl,rfl,al _ _⟩
       refine aH ?_ ?_
       ·intro wD E sD;refine az cF rfl rfl rfl (bQ sD (by assumption)) rfl ?_;exact ab ⟨rfl,rfl,_,rfl,rfl,al _ _⟩
       refine aH ?_ ?_
       ·intro wD E sD;refine ay (aC rfl ⟨_,rfl⟩ rfl ?_);exact ab ⟨rfl,rfl,_,rfl,rfl,al _ _⟩
       refine aH ?_ ?_
       ·intro wD E sD;refine ay (aB dw rfl rfl y4 (by decide) rfl rfl ?_);exact ab ⟨rfl,rfl,_,rfl,rfl,al _ _⟩
       refine aH ?_ ?_
       ·intro wD E sD;refine ay (az bp rfl rfl rfl (bQ sD (by assumption)) rfl ?_);exact ab ⟨rfl,rfl,_,rfl,rfl,al _ _⟩
       refine aH ?_ ?_
       ·intro wD E sD;refine aM (M:=M2) (A:=RT.po) (B:=RT.int .i64) bO rfl rfl I3 (by decide) (HV) rfl rfl (by decide) (by assumption) (by repeat (first|exact aq _ _|refine aU (bm (by assumption)) ?_)) (fun abv XV=>?_);exact ab ⟨rfl,rfl,_,rfl,by assumption,al _ _⟩
       refine aH ?_ ?_
       ·intro wD E sD;intro v5 oe;refine cn (M:=M2) an rfl rfl (by assumption) (by repeat (first|exact aq _ _|refine aU (bm (by assumption)) ?_)) (fun XW=>?_);exact ab ⟨rfl,rfl,_,rfl,rfl,al _ _⟩
       refine aH ?_ ?_
       ·intro wD E sD;refine az an rfl rfl rfl (bQ sD (by assumption)) rfl ?_;exact ab ⟨rfl,rfl,_,rfl,rfl,al _ _⟩
       refine aH ?_ ?_
       ·intro wD E sD;refine ay (ay (gj rfl rfl rfl (by omega) ?_));exact ab ⟨rfl,rfl,_,rfl,rfl,al _ _⟩
       refine aH ?_ ?_
       ·intro wD E sD;refine ay (gj rfl rfl rfl (by omega) (br (v':= .int .i64 (((d-bW (-1) (l.take (i+j))-1).toNat:Nat):Int)) (by congr 1;omega) ?_));exact ab ⟨rfl,rfl,_,rfl,rfl,al _ _⟩
       refine aH ?_ ?_
       ·intro wD E sD;refine ay (ay ?_);refine aJ rfl rfl LO (He (M:=M2) (sD.lt dA) (hB.le sD.le) (by omega) (by omega)) (fun rP wP hP=>?_);exact ab ⟨rfl,rfl,_,rfl,hP.2,hP.1⟩
       refine aH ?_ ?_
       ·intro wD E sD;refine ay (ay (ay (ay (ay (ay ?_)))));intro v5 oe;refine ay (ay (ay (ay ?_)));intro v10 NS;refine aC rfl ⟨_,rfl⟩ rfl ?_;exact ab ⟨rfl,rfl,_,rfl,rfl,al _ _⟩
       refine aH ?_ ?_
       ·intro wD E sD;refine ay (ay (ay (ay (ay (ay ?_)))));intro v5 oe;refine ay (ay (ay (ay ?_)));intro v10 NS;refine aB dw rfl rfl y4 (by decide) rfl rfl ?_;exact ab ⟨rfl,rfl,_,rfl,rfl,al _ _⟩
       exact bE.nil
      ·intro DK gS;refine ay (ay (ay (ay (ay ?_))));intro abw XX;refine ay (ay (ay (ay ?_)));intro XY C8;refine ay (ay ?_);have h6:=h5.step gS;have hp6:=hp0.le (by decide) gS.le;refine bL (M:=M2) y4 rfl rfl h6.x rfl (j0 C8 rfl rfl) h6.mx (fun PY XZ oP=>?_);refine ab ⟨rfl,?_⟩;have h7:=h6.NO oP XZ (RT.V.le oP.le C8) h6.hk;have O0:=hp6.le (by decide) oP.le;refine ai ?_;have hO:=h7.o;have hX:=h7.x;have hB:=h7.hb;have dA:=h7.lt;have fbl:(dz (-1) (l.take (i+j))++put (d-bW (-1) (l.take (i+j))-1).toNat).length≤35184372088832:=by rw[ftk]at ftl;simp only[bP]at ftl ⊢;omega
       apply T.JW (M:=M2) mixed [(13,fun k=>k=bx)] [b5.eq _,b5.eq _,b5.eq _,b5.eq _,b5.eq _,b5.ptr ((RT.int .i64).sl) ps,b5.V ((RT.int .i64).sl) ps,⟨fun t w=>∃x,t= .tuple #[x,.int .i64 0]∧(RT.u8.sl).V M2 w (dz (-1) (l.take (i+j))++put (d-bW (-1) (l.take (i+j))-1).toNat++dI ps) x,Dj,fun⟨x,h1,h2⟩ s _=>⟨x,h1,h2.le s.le⟩⟩,⟨fun t w=>∃x,t= .tuple #[x,.int .i64 0]∧(RT.u8.sl).V M2 w (dz (-1) (l.take (i+j))++put (d-bW (-1) (l.take (i+j))-1).toNat++dI ps) x,Dj,fun⟨x,h1,h2⟩ s _=>⟨x,h1,h2.le s.le⟩⟩,b5.V (RT.u8.sl) (dz (-1) (l.take (i+j))++put (d-bW (-1) (l.take (i+j))-1).toNat++dI ps),b5.eq (.int .i64 0),b5.eq _,b5.eq _,⟨fun _ w=>∃x,w.heap[bx]? =some (.cells #[x,vk,.int .i64 (gA (l.take (i+j)))] 207 (0,0))∧(RT.u8.sl).V M2 w (dz (-1) (l.take (i+j))++put (d-bW (-1) (l.take (i+j))-1).toNat++dI ps) x,fun k=>k≠bx,fun⟨x,h1,h2⟩ s hN=>⟨x,s.bB h1 (fun hb=>hN _ hb rfl),h2.le s.le⟩⟩]
       ·rfl
       ·intro p hp b hb;simp only[cC]at hp;subst hp
        cases hb;exact h7.mx
       ·exact⟨fun _ _ _ _=>trivial,⟨fun _ _ _ _=>trivial,⟨fun _ _ _ _=>trivial,⟨fun _ _ _ _=>trivial,⟨fun _ _ _ _=>trivial,⟨fun _ _ _ _=>trivial,⟨fun _ _ _ _=>trivial,⟨fun _ _ _ _=>trivial,⟨fun _ _ _ _=>trivial,⟨fun _ _ _ _=>trivial,⟨fun _ _ _ _=>trivial,⟨fun _ _ _ _=>trivial,⟨fun _ _ _ _=>trivial,⟨fun p hp=>by simp at hp,trivial⟩⟩⟩⟩⟩⟩⟩⟩⟩⟩⟩⟩⟩⟩
       ·refine aQ ?_ ?_
        ·intro wD E sD;replace sD:Step M2 _ M2 wD aw:=sD;refine az cF rfl rfl rfl (bQ sD (by assumption)) rfl ?_;exact ab ⟨rfl,rfl,_,rfl,rfl,al _ _⟩
        refine aQ ?_ ?_
        ·intro wD E sD;replace sD:Step M2 _ M2 wD aw:=sD;refine az cF rfl rfl rfl (bQ sD (by assumption)) rfl ?_;exact ab ⟨rfl,rfl,_,rfl,rfl,al _ _⟩
        refine aQ ?_ ?_
        ·intro wD E sD;replace sD:Step M2 _ M2 wD aw:=sD;refine ay (aC rfl ⟨_,rfl⟩ rfl ?_);exact ab ⟨rfl,rfl,_,rfl,rfl,al _ _⟩
        refine aQ ?_ ?_
        ·intro wD E sD;replace sD:Step M2 _ M2 wD aw:=sD;refine ay (aB dw rfl rfl y4 (by decide) rfl rfl ?_);exact ab ⟨rfl,rfl,_,rfl,rfl,al _ _⟩
        refine aQ ?_ ?_
        ·intro wD E sD;replace sD:Step M2 _ M2 wD aw:=sD;refine ay (az bp rfl rfl rfl (bQ sD (by assumption)) rfl ?_);exact ab ⟨rfl,rfl,_,rfl,rfl,al _ _⟩
        refine aQ ?_ ?_
        ·intro wD E sD;replace sD:Step M2 _ M2 wD aw:=sD;refine aM (M:=M2) (A:=RT.po) (B:=(RT.int .i64).sl) bO rfl rfl lI (by decide) PB rfl rfl (by decide) O0 sD.le (fun uf yi=>?_);exact ab ⟨rfl,rfl,_,rfl,yi,al _ _⟩
        refine aQ ?_ ?_
        ·intro wD E sD;replace sD:Step M2 _ M2 wD aw:=sD;intro v5 oe;refine bZ (M:=M2) ar rfl rfl rfl rfl rfl (show cf ((RT.int .i64).sl) M2 wD v5 ps from oe) (aq _ _) (fun uf yi=>?_);exact ab ⟨rfl,rfl,_,rfl,yi,al _ _⟩
        refine aQ ?_ ?_
        ·intro wD E sD;replace sD:Step M2 _ M2 wD aw:=sD;refine ay ?_;intro v6 nw;refine aJ rfl rfl U6 (tW (M:=M2) (sD.lt dA) (hB.le sD.le) (show((RT.int .i64).sl).V M2 wD ps v6 from nw) (by omega)) (fun rP wP hP=>?_);obtain⟨xP,sP,hP1,R3⟩:=hP;rw[if_pos f7]at hP1 R3;exact ab ⟨rfl,rfl,_,rfl,⟨xP,hP1,R3⟩,sP⟩
        refine aQ ?_ ?_
        ·intro wD E sD;replace sD:Step M2 _ M2 wD aw:=sD;intro v7 zJ;refine ae rfl rfl ?_;exact ab ⟨rfl,rfl,_,rfl,zJ,al _ _⟩
        refine aQ ?_ ?_
        ·intro wD E sD;replace sD:Step M2 _ M2 wD aw:=sD;intro v8 C3;obtain⟨xP,rfl,R3⟩:=C3;refine bu rfl rfl rfl ?_;exact ab ⟨rfl,rfl,_,rfl,R3,al _ _⟩
        refine aQ ?_ ?_
        ·intro wD E sD;replace sD:Step M2 _ M2 wD (fun k=>k=bx):=sD;intro v8 C3;obtain⟨xP,rfl,R3⟩:=C3;refine bu rfl rfl rfl ?_;exact ab ⟨rfl,rfl,_,rfl,rfl,al _ _⟩
        refine aQ ?_ ?_
        ·intro wD E sD;replace sD:Step M2 _ M2 wD (fun k=>k=bx):=sD;refine ay (ay (ay (ay (ay (ay ?_)))));intro v5 oe;intro v6 nw;intro v7 zJ;intro v8 C3;intro v9 IU;refine aC rfl ⟨_,rfl⟩ rfl ?_;exact ab ⟨rfl,rfl,_,rfl,rfl,al _ _⟩
        refine aQ ?_ ?_
        ·intro wD E sD;replace sD:Step M2 _ M2 wD aw:=sD;refine ay (ay (ay (ay (ay (ay ?_)))));intro v5 oe;intro v6 nw;intro v7 zJ;intro v8 C3;intro v9 IU;refine aB dw rfl rfl y4 (by decide) rfl rfl ?_;exact ab ⟨rfl,rfl,_,rfl,rfl,al _ _⟩
        refine aQ ?_ ?_
        ·intro wD E sD;replace sD:Step M2 _ M2 wD aw:=sD;refine ay ?_;intro v9 IU;intro v7 zJ;refine ay (ay (ay (ay (ay ?_))));intro v5 oe;intro v6 nw;intro v7 zJ;intro v8 C3;intro v9 IU;refine bL (M:=M2) y4 rfl rfl (bQ sD hX) rfl (j0 (A:=RT.u8.sl) IU rfl rfl) h7.mx (fun wS hXS sS=>?_);exact ab ⟨rfl,rfl,undef,rfl,⟨_,hXS,RT.V.le (A:=RT.u8.sl) sS.le IU⟩,sS⟩
        exact cb.nil
       ·intro Ho uc;replace uc:Step M2 _ M2 Ho (fun k=>k=bx):=uc;refine ay (ay (ay (ay (ay ?_))));intro aby X0;intro abz X1;intro abA X2;intro abB X3;intro abC X4;refine ay (ay (ay ?_));intro X5 Jt;obtain⟨v12,X6,X7⟩:=Jt;have h8:=h7.NO uc X6 X7 h7.hk;have hp8:=O0.le (by decide) uc.le;refine ai ?_;have hO:=h8.o;have hX:=h8.x;apply T.Cv (M:=M2) (n:=85) _ mixed [] [b5.eq _,b5.eq _,b5.eq _,b5.eq _,b5.ptr ((RT.int .i64).sl) ps,b5.V ((RT.int .i64).sl) ps,b5.eq (.int .i64 ps.length),b5.eq _,b5.eq _,b5.eq _]
        ·rfl
        ·rfl
        ·rfl
        ·rfl
        ·exact fun p hp=>by cases hp
        ·exact rA.none
        ·refine aH ?_ ?_
         ·intro wD E sD;refine az cF rfl rfl rfl (bQ sD (by assumption)) rfl ?_;exact ab ⟨rfl,rfl,_,rfl,rfl,al _ _⟩
         refine aH ?_ ?_
         ·intro wD E sD;refine ay (aC rfl ⟨_,rfl⟩ rfl ?_);exact ab ⟨rfl,rfl,_,rfl,rfl,al _ _⟩
         refine aH ?_ ?_
         ·intro wD E sD;refine ay (aB dw rfl rfl I3 (by decide) rfl rfl ?_);exact ab ⟨rfl,rfl,_,rfl,rfl,al _ _⟩
         refine aH ?_ ?_
         ·intro wD E sD;refine ay (az an rfl rfl rfl (bQ sD (by assumption)) rfl ?_);exact ab ⟨rfl,rfl,_,rfl,rfl,al _ _⟩
         refine aH ?_ ?_
         ·intro wD E sD;refine aM (M:=M2) (A:=RT.po) (B:=(RT.int .i64).sl) bO rfl rfl lI (by decide) PB rfl rfl (by decide) hp8 sD.le (fun uf yi=>?_);exact ab ⟨rfl,rfl,_,rfl,yi,al _ _⟩
         refine aH ?_ ?_
         ·intro wD E sD;intro v4 pz;refine bZ (M:=M2) ar rfl rfl rfl rfl rfl (show cf ((RT.int .i64).sl) M2 wD v4 ps from pz) (aq _ _) (fun uf yi=>?_);exact ab ⟨rfl,rfl,_,rfl,yi,al _ _⟩
         refine aH ?_ ?_
         ·intro wD E sD;intro v5 oe;refine bM ar rfl (show((RT.int .i64).sl).V M2 wD ps v5 from oe) rfl ?_;exact ab ⟨rfl,rfl,_,rfl,rfl,al _ _⟩
         refine aH ?_ ?_
         ·intro wD E sD;refine ay (ay (bA rfl rfl rfl (by omega) ?_));exact ab ⟨rfl,rfl,_,rfl,rfl,al _ _⟩
         refine aH ?_ ?_
         ·intro wD E sD;refine ay (ay (ay (ay (ay ?_))));intro v4 pz;intro v5 oe;refine ay (ay (aC rfl ⟨_,rfl⟩ rfl ?_));exact ab ⟨rfl,rfl,_,rfl,rfl,al _ _⟩
         refine aH ?_ ?_
         ·intro wD E sD;refine ay (ay (ay (ay (ay ?_))));intro v4 pz;intro v5 oe;refine ay (ay (aB dw rfl rfl I3 (by decide) rfl rfl ?_));exact ab ⟨rfl,rfl,_,rfl,rfl,al _ _⟩
         exact bE.nil
        ·intro MH l6;refine ay (ay (ay (ay ?_)));intro abE X8;intro Kv xW;refine ay (ay (ay (ay ?_)));have h9:=h8.step l6;refine bL (M:=M2) I3 rfl rfl h9.x rfl rfl h9.mx (fun OX X9 om=>?_);refine ab ⟨rfl,?_⟩;have Ef:=h9.NO om X9 (h9.hb.le om.le) h9.hk;have Ya:=(hp8.le (by decide) l6.le).le (by decide) om.le;refine ad ?_;refine aM (M:=M2) (A:=RT.po) (B:=RT.int .i64) bO rfl rfl I3 (by decide) HV rfl rfl (by decide) Ya (aq _ _) (fun abF NT=>?_);refine cn (M:=M2) an rfl rfl NT (aq _ _) (fun _=>?_);refine br (v':= .int .i64 d) rfl ?_;refine bL (M:=M2) I3 rfl rfl Ef.l rfl rfl Ef.ml (fun MX Yb ij=>?_);have h11:=Ef.Js ij Yb;refine ab (ad (bA rfl rfl rfl (by omega) (ae rfl rfl (ab ?_))));refine⟨rfl,(j+1,v12),(.cons rfl (.cons rfl (.cons rfl (.cons rfl (.cons rfl (.cons rfl (.cons rfl .nil))))))),?_,?_⟩
         ·refine⟨by simp only;omega,?_,?_⟩
          ·exact ij.bB (om.bB (l6.aE (uc.bB (oP.bB (gS.aE (pT.aE hQ)) (by omega)) (by omega))) (by omega)) (by omega)
          ·simp only;rw[show i+(j+1)=i+j+1 from by omega,sK hx,f5,ftk];exact h11
         ·simp only;omega
     ·refine cB (ai (ad ?_));obtain rfl:j=((l.drop i).take 8).length:=by omega
      have Pb:M2 bq:=by rw[Kj];exact .inl rfl
      refine az an rfl rfl rfl h4.l rfl (aB (o':=2) jM rfl rfl I3 (by decide) rfl rfl ?_);refine bL (M:=M2) I3 rfl rfl hQ rfl rfl Pb (fun KQ R4 B3=>?_);have O5:=h4.other B3 Uz TX;change KQ.heap[bq]? =some (.cells [.int .i64 (dz (-1) (l.take i)).length,.int .i64 (bW (-1) (l.take i)),.int .i64 (bW (-1) (l.take (i+((l.drop i).take 8).length))),.int .i64 ((l.drop i).take 8).length].toArray 209 (0,0))at R4;refine ab ?_;have hO:=O5.o;have hX:=O5.x;have Ju:=O5.hk;have gV:∀k,vk.ownBlock=some k→k≠bo:=fun k hk=>by have:=(Ju.base k hk).1;omega
      have afK:=aj O5.r;have g1:=iU l (-1) tZ (by omega) i;have g2:=iU l (-1) tZ (by omega) (i+((l.drop i).take 8).length);have g3:=kP l i;apply T.Cv (M:=M2) (n:=85) _ mixed [(7,fun k=>vk.ownBlock=some k)] [b5.eq _,b5.eq _,b5.eq _,b5.eq _,b5.eq _,b5.eq (.agg [.int .i64 (dz (-1) (l.take i)).length,.int .i64 (bW (-1) (l.take i)),.int .i64 (bW (-1) (l.take (i+((l.drop i).take 8).length))),.int .i64 ((l.drop i).take 8).length].toArray),b5.V ((RT.bl).sl) [(((dz (-1) (l.take i)).length:Int),bW (-1) (l.take i),bW (-1) (l.take (i+((l.drop i).take 8).length)),(((l.drop i).take 8).length:Int))],⟨fun t w=>∃M3,Own RT.bl 209 M3 w (D+2) t (mD l ((i+7)/8)++[(((dz (-1) (l.take i)).length:Int),bW (-1) (l.take i),bW (-1) (l.take (i+((l.drop i).take 8).length)),(((l.drop i).take 8).length:Int))])∧Step M2 KQ M3 w (fun k=>vk.ownBlock=some k),aw,fun⟨M3,h1,h2⟩ s hN=>⟨M3,h1.aW ((s.bN hN (fun _ h=>h.elim)).any M3),h2.ax ((s.bN hN (fun _ h=>h.elim)).any M3)⟩⟩,b5.eq _,b5.eq _]
      ·rfl
      ·rfl
      ·rfl
      ·rfl
      ·intro p hp b hb;simp only[cC]at hp;subst hp;exact Ju.mut_ b hb
      ·exact⟨fun _ _ _ _=>trivial,⟨fun _ _ _ _=>trivial,⟨fun _ _ _ _=>trivial,⟨fun _ _ _ _=>trivial,⟨fun _ _ _ _=>trivial,⟨fun _ _ _ _=>trivial,⟨fun _ _ _ _=>trivial,⟨fun p hp=>by simp at hp,⟨fun _ _ _ _=>trivial,⟨fun _ _ _ _=>trivial,trivial⟩⟩⟩⟩⟩⟩⟩⟩⟩⟩
      ·refine aH ?_ ?_
       ·intro wD E sD;replace sD:Step M2 _ M2 wD (fun k=>vk.ownBlock=some k):=sD;refine az cF rfl rfl rfl (sD.bB hO (fun hb=>gV _ hb rfl)) rfl ?_;exact ab ⟨rfl,rfl,_,rfl,rfl,al _ _⟩
       refine aH ?_ ?_
       ·intro wD E sD;replace sD:Step M2 _ M2 wD (fun k=>vk.ownBlock=some k):=sD;refine az cF rfl rfl rfl (sD.bB hO (fun hb=>gV _ hb rfl)) rfl ?_;exact ab ⟨rfl,rfl,_,rfl,rfl,al _ _⟩
       refine aH ?_ ?_
       ·intro wD E sD;replace sD:Step M2 _ M2 wD (fun k=>vk.ownBlock=some k):=sD;refine ay (aC rfl ⟨_,rfl⟩ rfl ?_);exact ab ⟨rfl,rfl,_,rfl,rfl,al _ _⟩
       refine aH ?_ ?_
       ·intro wD E sD;replace sD:Step M2 _ M2 wD (fun k=>vk.ownBlock=some k):=sD;refine ay (aB dw rfl rfl A9 (by decide) rfl rfl ?_);exact ab ⟨rfl,rfl,_,rfl,rfl,al _ _⟩
       refine aH ?_ ?_
       ·intro wD E sD;replace sD:Step M2 _ M2 wD aw:=sD;refine ay (az dP rfl rfl rfl (bQ sD (by assumption)) rfl ?_);exact ab ⟨rfl,rfl,_,rfl,rfl,al _ _⟩
       refine aH ?_ ?_
       ·intro wD E sD;replace sD:Step M2 _ M2 wD (fun k=>vk.ownBlock=some k):=sD;refine fX (vs:=[.int .i64 (dz (-1) (l.take i)).length,.int .i64 (bW (-1) (l.take i)),.int .i64 (bW (-1) (l.take (i+((l.drop i).take 8).length))),.int .i64 ((l.drop i).take 8).length]) jM rfl uH rfl rfl rfl (sD.bB R4 (fun hb=>TX _ hb rfl)) ?_;exact ab ⟨rfl,rfl,_,rfl,rfl,al _ _⟩
       refine aH ?_ ?_
       ·intro wD E sD;replace sD:Step M2 _ M2 wD aw:=sD;refine ay ?_;refine fa (A:=RT.bl) (hn:=by decide) (M:=M2) dP uH (by decide) rfl rfl (sD.lt O5.lt) (UF (by omega) (by omega) (by omega) (by omega)) (.inl rfl) (fun uS wS hS sS=>?_);exact ab ⟨rfl,rfl,_,rfl,hS,sS⟩
       refine aH ?_ ?_
       ·intro wD E sD;replace sD:Step M2 _ M2 wD aw:=sD;refine ay ?_;intro v6 nw;refine cQ (M:=M2) (base:=D+2) dP uH rfl rfl rfl rfl (Ju.aW sD) (show((RT.bl).sl).V M2 wD [(((dz (-1) (l.take i)).length:Int),bW (-1) (l.take i),bW (-1) (l.take (i+((l.drop i).take 8).length)),(((l.drop i).take 8).length:Int))] v6 from nw) (aq _ _) (by simp[mD];omega) (by simp[mD];omega) (by have:=sD.size;omega) (fun v3 M3 w3 EJ s3=>?_);exact ab ⟨rfl,rfl,_,rfl,⟨M3,EJ,(sD.bN (fun _ h=>h.elim) Ju.mut_).trans s3 (fun b _ hb=>hb)⟩,s3.back⟩
       refine aH ?_ ?_
       ·intro wD E sD;replace sD:Step M2 _ M2 wD (fun k=>vk.ownBlock=some k):=sD;refine ay (ay (ay (ay (ay (ay (ay ?_))))));intro v6 nw;intro v7 zJ;refine aC rfl ⟨_,rfl⟩ rfl ?_;exact ab ⟨rfl,rfl,_,rfl,rfl,al _ _⟩
       refine aH ?_ ?_
       ·intro wD E sD;replace sD:Step M2 _ M2 wD (fun k=>vk.ownBlock=some k):=sD;refine ay (ay (ay (ay (ay (ay (ay ?_))))));intro v6 nw;intro v7 zJ;refine aB dw rfl rfl A9 (by decide) rfl rfl ?_;exact ab ⟨rfl,rfl,_,rfl,rfl,al _ _⟩
       exact bE.nil
      ·intro Yc R5;replace R5:Step M2 _ M2 Yc (fun k=>vk.ownBlock=some k):=R5;refine ay (ay (ay (ay (ay (ay ?_)))));intro abG Yd;intro abH NU;refine ay (ay ?_);obtain⟨M3,EJ,sR⟩:=NU;obtain⟨⟨RJ,hm3,afM⟩,Un⟩:=O5.grow sR EJ;refine bL (M:=M3) A9 rfl rfl RJ rfl (by obtain⟨_,_,he,_⟩:=EJ.isSlice;rw[he];rfl) hm3 (fun Z1 Ye OM=>?_);refine ab ⟨rfl,?_⟩;have NF:=Un OM Ye;have h18:=NF.tJ (st':= .loop (rec .ready none)) NF.r;have hE:i+((l.drop i).take 8).length=min (i+8) l.length:=by omega
       rw[hE,Fa (by omega) hi]at h18;exact⟨NF.r,true,rfl,fun _=>⟨M3,_,_,h18,by omega,by omega⟩,fun h=>by cases h⟩
  ·obtain⟨Mz,vb,vk,h,_,_⟩:=h3.resolve_right (fun h=>h);left;rw[List.take_length]at h;have h5:=h.tJ (st':= .loop (rec .exhausted none)) h.r;refine⟨h.r,?_⟩;generalize w3.putObj (D+1) _=wE at h5 ⊢;refine ai (ad (az cF rfl rfl rfl h5.o rfl (ah rfl rfl (ah rfl rfl (ab (aI ?_))))));obtain⟨q1,q2,q3,q4,q5,q6,q7,q8,q9,q10,q11,q12,q13,q14,q15,q16,q17,q18⟩:=h5.ne;have sZ:Step Mz wE Mz (wE.putObj D (.deferred none)) (fun k=>k=D):=fA h5.md;have SZ:=h5.S.cO sZ (fun k hk=>by subst hk;omega);have ht:=lU l;refine LC rfl rfl rfl h5.d ⟨SZ.back,fun _=>⟨_,rfl,?_⟩,fun hf=>by rw[tZ]at hf;cases hf⟩;exact PC (sZ.bB h5.x (by omega)) (fun hh=>by have:=hM _ hh;omega) ((h5.hb.le sZ.le).le (Le.close hM SZ)) (Own.close hM SZ ((h5.hk.step sZ (fun k hk hh=>by have:=(h5.hk.base k hk).1;omega)).sh (by omega)) (by simp[mD];omega)) (by omega)
end Go.K
namespace Go.K
open Go.Proofs
namespace TKBldG
theorem rO:TI Tryz.prog 80 (.slice none 0 0) 1 24:=by unfold TI;kernel_rfl
theorem xH:TI Tryz.prog 196 (.slice none 0 0) 1 24:=by unfold TI;kernel_rfl
theorem Jv:Enters Tryz.prog 145:=enters Tryz.func145 rfl (by decide)
theorem LU:Enters Tryz.prog 197:=enters Tryz.func197 rfl (by decide)
end TKBldG
open TKBldG
set_option maxRecDepth 10000
theorem index_spec {M:aD} {l:List (List Po)} {v0:Value} {g:FuncId} {cap:List Value} {B:Nat} {J:Nat→aD→World→Prop} {bad:List Po→Bool} (w0:World) (hM:Lt M w0) (hv:(((RT.po).sl).sl).V M w0 l v0) (hg:Enters Tryz.prog g) (hJ:J 0 M w0) (iI:∀i M w M' w',J i M w→Step M w M' w' aw→J i M' w') (ht:∀i M w x vx,J i M w→Lt M w→l[i]? =some x→((RT.po).sl).V M w x vx→Spec Tryz.prog g ([vx]++cap).toArray w (fun v w'=>∃M',Lt M' w'∧v= .bool (bad x)∧(bad x=false→J (i+1) M' w')∧Step M w M' w' (jE M B))):
  Spec Tryz.prog 197 #[v0,.func (.func g) #[] cap.toArray] w0 (fun v w=>∃M' k,v= .int .i64 k∧ -1≤k∧Lt M' w∧Step M w0 M' w (jE M B)∧(k= -1→(∀x∈l,bad x=false)∧J l.length M' w)∧(0≤k→∃x∈l,bad x=true)):=by
 have hlen:=eR hv;refine aR (args:=[_,_]) (fn:=Tryz.f197) Tryz.func197 rfl (n:=19) Tryz.ntmps197 ?_;have S:Step M w0 M w0 (jE M B):=(al _ _).bN (fun _ h=>h.elim) (fun _ h=>h.2);refine ai (ad (ah rfl rfl (ab (ai (ai (ad (ae rfl rfl (bM k4 rfl hv rfl (ae rfl rfl (ab (a7 ?_)))))))))));refine dd (σ:=Nat) (fun q=>[(0,v0),(1,.func (.func g) #[] cap.toArray),(6,v0),(7,.int .i64 (l.length:Int)),(8,.int .i64 (q:Int))]) (fun q w=>∃M',Lt M' w∧Step M w0 M' w (jE M B)∧(((RT.po).sl).sl).V M' w l v0∧J q M' w∧q≤l.length∧∀x∈l.take q,bad x=false) (fun q=>l.length-q) 0 (.cons rfl (.cons rfl (.cons rfl (.cons rfl (.cons rfl .nil))))) ?_ ?_
 ·exact⟨M,hM,S,hv,hJ,bG _,fun x h=>by simp at h⟩
 ·clear hM S hv hJ;rintro i w ⟨M1,hM,S,hv,hJ,hi,kx⟩;refine ai (ad (bY rfl rfl rfl (ab (ai ?_))));refine bK rfl (fun c2=>?_) (fun c2=>?_)
  ·refine aT (ai (a7 (ai (ad (ae rfl rfl (ah rfl rfl (ab (ai (ad (ae rfl rfl (ae rfl rfl ?_)))))))))));refine ae rfl rfl ?_;refine dq (M:=M1) k4 rO rfl rfl rfl hv (aq _ _) (by omega) (fun u x yA hu=>?_);rw[aG]at yA;refine bZ (M:=M1) a8 rfl rfl rfl rfl rfl hu (aq _ _) (fun vx tz=>?_);refine Rg.nY (first:=[]) (captured:=cap) (xs:=[.tmp 15]) rfl rfl rfl hg (ht i _ _ x vx hJ hM yA tz) (fun r4 w4 hc=>?_);obtain⟨M4,NV,rfl,TY,s4⟩:=hc;refine br (v':= .bool (decide (bad x=true))) (by simp) ?_;have S4:=S.trans s4 (fun k hk h=>⟨h.1,(S.mem k hk).1 h.2⟩);refine ab ?_;refine bK rfl (fun c4=>?_) (fun c4=>?_)
   ·refine ai (ad (ae rfl rfl (ah rfl rfl (ab (aI ?_)))));exact aO rfl rfl ⟨M4,_,rfl,by omega,NV,S4,fun h=>absurd h (by omega),fun _=>⟨x,aN yA,c4⟩⟩
   ·refine aT (ad (bA rfl rfl rfl (by omega) (ae rfl rfl (ab ?_))));refine⟨rfl,i+1,(.cons rfl (.cons rfl (.cons rfl (.cons rfl (.cons rfl .nil))))),?_,?_⟩
    ·have hb:bad x=false:=by simpa using c4
     exact⟨M4,NV,S4,hv.le s4.le,TY hb,by omega,fun y hy=>by
      rw[cw,yA,dp,dC,cC]at hy;rcases hy with hy|rfl
      ·exact kx y hy
      ·exact hb⟩
    ·omega
  ·refine cB (ai (ad (ah rfl rfl (ab (aI ?_)))));rw[bT (by omega)]at kx;have e:i=l.length:=by omega
   subst e;exact aO rfl rfl ⟨_,_,rfl,by omega,hM,S,fun _=>⟨kx,hJ⟩,fun h=>absurd h (by omega)⟩
theorem vg {M:aD} {l:List (List Po)} {v0:Value} {g:FuncId} {cap:List Value} {B:Nat} {J:Nat→aD→World→Prop} {bad:List Po→Bool} (w0:World) (hM:Lt M w0) (hv:(((RT.po).sl).sl).V M w0 l v0) (hg:Enters Tryz.prog g) (hJ:J 0 M w0) (iI:∀i M w M' w',J i M w→Step M w M' w' aw→J i M' w') (ht:∀i M w x vx,J i M w→Lt M w→l[i]? =some x→((RT.po).sl).V M w x vx→Spec Tryz.prog g ([vx]++cap).toArray w (fun v w'=>∃M',Lt M' w'∧v= .bool (bad x)∧(bad x=false→J (i+1) M' w')∧Step M w M' w' (jE M B))):
  Spec Tryz.prog 146 #[v0,.func (.func g) #[] cap.toArray] w0 (fun v w=>∃M' k,v= .bool (decide (0≤k))∧ -1≤k∧Lt M' w∧Step M w0 M' w (jE M B)∧(k= -1→(∀x∈l,bad x=false)∧J l.length M' w)∧(0≤k→∃x∈l,bad x=true)):=by
 refine aR (args:=[_,_]) (fn:=Tryz.f146) Tryz.func146 rfl (n:=9) Tryz.ntmps146 (ai (ad (ah rfl rfl (ab (ai (ad (ae rfl rfl (ae rfl rfl ?_))))))));refine aJ rfl rfl LU (index_spec w0 hM hv hg hJ iI ht) (fun r w1 hc=>?_);obtain⟨M1,k,rfl,hk,h2⟩:=hc;refine dh rfl rfl rfl (ah rfl rfl (ab (aI ?_)));exact aO rfl rfl ⟨M1,k,rfl,hk,h2⟩
def Ar (x:List Po):Int:=match x.getLast? with|some p=>p.1|none=> -1
def kU (n:Int) (x:List Po):Bool:= !dY (-1) x||x.isEmpty||decide (n≤Ar x)
theorem As {x:List Po} {p:Po} (h:x[x.length-1]? =some p):Ar x=p.1:=by
 unfold Ar;rw[List.getLast?_eq_getElem?,h]
structure Room (x:List Po):Prop where
 ps:∀p∈x,p.2.length≤1099511627776
 by_:(dz (-1) x).length≤35184372088832
 ln:x.length≤1099511627776
 tot:gA x≤4611686018427387904
def RT.cell:RT Value where
 n:=1
 agg:=false
 R:=fun _ _ x vs=>vs=[x]∧x.oneCell'=true
 len:=by rintro _ _ x vs ⟨rfl,_⟩;rfl
 one:=by rintro _ _ x vs ⟨rfl,h⟩ v hv;simp at hv;subst hv;exact h
 le:=fun _ h=>h
theorem Jw {M:aD} {w:World} {v:Value} (h:v.oneCell'=true):RT.cell.V M w v v:=⟨[v],⟨rfl,h⟩,rfl⟩
theorem eB.cells {α:Type} {A:RT α} (hA:A.n=1) {M:aD} {w:World}:∀{xs:List α} {C:List Value},eB A M w xs C→∃ys:List Value,eB RT.cell M w ys C∧ys.length=xs.length
 |[],C,h=>⟨[],h,rfl⟩
 |x::xs,C,h=>by
  obtain⟨vs,r,h1,h2,h3⟩:=h;obtain⟨ys,h4,h5⟩:=eB.cells hA h3;have hl:=A.len h2
  match vs,hl,h1,h2 with
  |[v],_,h1,h2=>exact⟨v::ys,⟨[v],r,h1,⟨rfl,A.one h2 v (by simp)⟩,h4⟩,by simp[h5]⟩
  |[],hl,_,_=>simp at hl;omega
  |_::_::_,hl,_,_=>simp at hl;omega
theorem Own.cells {α:Type} {A:RT α} (hA:A.n=1) {e:TypeId} {M:aD} {w:World} {base:Nat} {v:Value} {xs:List α} (h:Own A e M w base v xs):∃ys:List Value,Own RT.cell e M w base v ys∧ys.length=xs.length:=by
 obtain⟨⟨C,hr,ha⟩,hm⟩:=h;obtain⟨ys,h1,h2⟩:=ha.cells hA;exact⟨ys,⟨⟨C,by rw[h2,show RT.cell.n=A.n from hA.symm];exact hr,h1⟩,hm⟩,h2⟩
def vh (bl bn:Nat) (n:Int) (ls:List (List Po)) (B:Nat) (i:Nat) (M:aD) (w:World):Prop:=∃vl,w.heap[bl]? =some (.cells #[vl] 196 (0,0))∧M bl∧B≤bl∧w.heap[bn]? =some (.cells #[.int .i64 n] 3 (0,0))∧M bn∧Own ((RT.li).ptr) 142 M w B vl ((ls.take i).map hG)
theorem vh.aW {bl bn:Nat} {n:Int} {ls:List (List Po)} {B i:Nat} {M M':aD} {w w':World} (h:vh bl bn n ls B i M w) (s:Step M w M' w' aw):vh bl bn n ls B i M' w':=by
 obtain⟨vl,h1,h2,h3,h4,h5,h6⟩:=h;exact⟨vl,s.aE h1,(s.mem _ (aj h1)).2 h2,h3,s.aE h4,(s.mem _ (aj h4)).2 h5,h6.aW s⟩
theorem NW {M:aD} {bl bn B i:Nat} {n:Int} {ls:List (List Po)} {x:List Po} {v0:Value} (w0:World) (hM:Lt M w0) (hB:B≤w0.heap.size) (hJ:vh bl bn n ls B i M w0) (hx:ls[i]? =some x) (hv:((RT.po).sl).V M w0 x v0) (hr:Room x) (mQ:i≤1000000000) (hm:dY (-1) x=true):
  Spec Tryz.prog 144 #[v0,.pointer (some ⟨bl,0,none⟩),.pointer (some ⟨bn,0,none⟩)] w0 (fun v w=>∃M',Lt M' w∧v= .bool (kU n x)∧(kU n x=false→vh bl bn n ls B (i+1) M' w)∧Step M w0 M' w (jE M B)):=by
 have hlen:=eR hv;obtain⟨vl,gl,jb,Yf,gn,ke,ho⟩:=hJ;have nln:bl≠bn:=fun h=>by rw[h,gn]at gl;simp at gl
 refine aR (args:=[_,_,_]) (fn:=Tryz.f144) Tryz.func144 rfl (n:=34) Tryz.ntmps144 ?_;have S:Step M w0 M w0 (jE M B):=(al _ _).bN (fun _ h=>h.elim) (fun _ h=>h.2);refine ai (ad (ah rfl rfl (ab (ai (ad (ae rfl rfl ?_))))));refine aJ rfl rfl Jv (qJ hM hv hr.ps hr.by_ hr.ln hr.tot) (fun r1 w1 hc=>?_);obtain⟨s1,fY,kx⟩:=hc;obtain⟨p,rfl,hp⟩:=fY hm;have:=aj gl;replace jb:=(s1.mem _ this).2 jb;replace gl:=s1.aE gl;have:=aj gn;replace ke:=(s1.mem _ this).2 ke;replace gn:=s1.aE gn;replace hv:=hv.le s1.le;replace ho:=ho.aW s1;replace hM:=s1.lt hM;have:=S.size;replace S:=S.ax s1;refine ae rfl rfl (bu rfl rfl rfl (bu rfl rfl rfl (ah rfl rfl (ah rfl rfl (ab (ai (ad (az cZ rfl rfl rfl gl rfl (br (v':=vl) rfl (ae rfl rfl ?_))))))))));refine fa (A:=((RT.li).ptr)) (hn:=by decide) (M:=M) cZ oN (by decide) rfl rfl hM (C2.2 hp) (.inr ⟨rfl,rfl⟩) (fun Yg Yh kf mJ=>?_);have:=aj gl;replace jb:=(mJ.mem _ this).2 jb;replace gl:=mJ.aE gl;have:=aj gn;replace ke:=(mJ.mem _ this).2 ke;replace gn:=mJ.aE gn;replace hv:=hv.le mJ.le;replace hp:=hp.le (by decide) mJ.le;replace ho:=ho.aW mJ;replace hM:=mJ.lt hM;have:=S.size;replace S:=S.ax mJ;refine cQ (M:=M) (base:=B) cZ oN rfl rfl rfl rfl ho kf (aq _ _) (by simp;omega) (by simp;omega) (by have:=S.size;omega) (fun NX Au Yi Hp mK=>?_);have:=aj gl;replace jb:=(mK.mem _ this).2 jb;replace gl:=mK.bB gl (fun h=>by first|exact ho.dF gl h|exact ho.ef gl (by decide) h|(have:=(ho.base _ h).1;omega));have:=aj gn;replace ke:=(mK.mem _ this).2 ke;replace gn:=mK.bB gn (fun h=>by first|exact ho.dF gn h|exact ho.ef gn (by decide) h|(have:=(ho.base _ h).1;omega));replace hv:=hv.le mK.le;replace hp:=hp.le (by decide) mK.le
 replace kf:=kf.le mK.le;replace hM:=mK.lt hM;have:=S.size;replace S:=S.trans mK (fun k hk h=>⟨(ho.base k h).1,(S.mem k hk).1 (ho.mut_ k h)⟩);replace ho:=Hp;refine bL (M:=Au) xH rfl rfl gl rfl (by obtain⟨_,_,he,_⟩:=ho.isSlice;rw[he];rfl) jb (fun NY Hq lH=>?_);change NY.heap[_]? =some (Obj.cells #[NX] _ _)at Hq;have:=aj gl;replace jb:=(lH.mem _ this).2 jb;have:=aj gn;replace ke:=(lH.mem _ this).2 ke;replace gn:=lH.bB gn (fun hk=>by have hk:_=_:=hk;omega);replace hv:=hv.le lH.le;replace hp:=hp.le (by decide) lH.le;replace kf:=kf.le lH.le;replace ho:=ho.step lH (fun c hc (h:c=bl)=>ho.ef gl (by decide) (h▸hc));replace hM:=lH.lt hM;have:=S.size;replace S:=S.trans lH (fun k hk h=>by have h:_=_:=h;subst h;first|(exfalso;omega)|(show _≤_;omega)|exact⟨by first|omega|assumption,(S.mem _ hk).1 ((lH.mem _ (aj gl)).1 jb)⟩|exact .inl rfl|exact .inr rfl|exact .inr (.inl rfl)|exact .inr (.inr rfl)|exact .inr (.inr (.inl rfl))|exact rfl);have R6:=Hq;clear gl;have gl:=R6;clear R6;refine ab (ai ?_);apply T.kO mixed rfl rfl;intro Qk Ql;have mE:=Ql Au;have:=aj gl;replace jb:=(mE.mem _ this).2 jb;replace gl:=mE.aE gl;have:=aj gn;replace ke:=(mE.mem _ this).2 ke;replace gn:=mE.aE gn;replace hv:=hv.le mE.le;replace hp:=hp.le (by decide) mE.le;replace kf:=kf.le mE.le;replace ho:=ho.aW mE;replace hM:=mE.lt hM;have:=S.size;replace S:=S.ax mE;refine ae rfl rfl ?_;refine ab ⟨rfl,rfl,rfl,?_⟩;refine eg rfl rfl rfl ?_;refine ab ⟨rfl,rfl,rfl,?_⟩;refine ae rfl rfl ?_;refine ab ⟨rfl,rfl,rfl,?_⟩;refine Rg.lL (g:=18) rfl ((by decide)) (ak rfl rfl (ae rfl rfl ?_));refine ab ⟨rfl,rfl,rfl,?_⟩;refine ak rfl rfl (bM a8 rfl hv rfl ?_);refine ab ⟨rfl,rfl,rfl,?_⟩;refine ak rfl rfl (jD rfl rfl rfl ?_);refine ab ⟨rfl,rfl,rfl,?_⟩;refine av rfl rfl rfl ?_
 refine ab ⟨rfl,rfl,rfl,?_⟩;refine ae rfl rfl ?_;refine ab ⟨rfl,rfl,rfl,?_⟩;refine aL (g:=23) rfl (fun NZ=>?_) (fun NZ=>?_)
 ·refine ao rfl rfl rfl rfl ?_;refine ab ⟨rfl,rfl,rfl,?_⟩;refine ao rfl rfl rfl rfl ?_;refine ab ⟨rfl,rfl,rfl,?_⟩;refine ao rfl rfl rfl rfl ?_;refine ab ⟨rfl,rfl,rfl,?_⟩;refine ao rfl rfl rfl rfl ?_;refine ab ⟨rfl,rfl,rfl,?_⟩;refine ao rfl rfl rfl rfl ?_;refine ab ⟨rfl,rfl,rfl,?_⟩;refine ao rfl rfl rfl rfl ?_;refine ab ⟨rfl,rfl,rfl,?_⟩;refine ao rfl rfl rfl rfl ?_;refine ab ⟨rfl,rfl,rfl,?_⟩;refine ao rfl rfl rfl rfl ?_;refine ab ⟨rfl,rfl,rfl,?_⟩;refine ao rfl rfl rfl rfl ?_;refine ab ⟨rfl,rfl,rfl,?_⟩;refine aP rfl rfl rfl ?_;refine ab ⟨rfl,rfl,rfl,?_⟩;refine ah rfl rfl ?_;refine ab ⟨rfl,rfl,rfl,?_⟩;refine fo (aI ?_)
  first
  |(have Jy:kU n x=true:=by
     have:x=[]:=gm.1 (by omega);simp[kU,this]
    rw[Jy];exact aO rfl rfl ⟨_,hM,rfl,(fun h=>by cases h),S⟩)
  |(have eD:x.isEmpty=false:=by cases x with
     |nil=>simp at NZ
     |cons a t=>rfl
    have Yj:kU n x=decide (n≤q.1):=by unfold kU;rw[hm,eD,As hq];rfl
    rw[Yj];exact aO rfl rfl ⟨_,hM,rfl,fun _=>⟨_,gl,jb,Yf,gn,ke,by rw[cw,hx,dp,ic];exact ho⟩,S⟩)
 ·refine ak rfl rfl (ae rfl rfl ?_);refine ab ⟨rfl,rfl,rfl,?_⟩;refine ak rfl rfl (ae rfl rfl ?_);refine ab ⟨rfl,rfl,rfl,?_⟩;refine ak rfl rfl (bM a8 rfl hv rfl ?_);refine ab ⟨rfl,rfl,rfl,?_⟩;refine ak rfl rfl (gj rfl rfl rfl (by omega) ?_);refine ab ⟨rfl,rfl,rfl,?_⟩;refine ak rfl rfl ?_;obtain⟨q,hq⟩:∃q,x[x.length-1]? =some q:=⟨_,aK (by omega)⟩;refine dq (M:=Au) a8 ni rfl rfl rfl hv (aq _ _) (by omega) (fun u3 a Na hu3=>?_);obtain rfl:q=a:=bU (hq.symm.trans (by rw[show((x.length:Int)-1).toNat=x.length-1 from by omega]at Na;exact Na));refine ab ⟨rfl,rfl,rfl,?_⟩;refine ak rfl rfl ?_;refine aM (M:=Au) (A:=RT.po) (B:=RT.int .i64) bO rfl rfl I3 (by decide) (HV) rfl rfl (by decide) (by assumption) (by repeat (first|exact aq _ _|refine aU (bm (by assumption)) ?_)) (fun abJ Yk=>?_);refine ab ⟨rfl,rfl,rfl,?_⟩;refine ak rfl rfl ?_;refine cn (M:=Au) an rfl rfl (by assumption) (by repeat (first|exact aq _ _|refine aU (bm (by assumption)) ?_)) (fun Hr=>?_);refine br (v':= .int .i64 (q.1)) rfl ?_;replace Hr: -9223372036854775808≤(q.1:Int)∧q.1≤9223372036854775807:=Hr;refine ab ⟨rfl,rfl,rfl,?_⟩;refine ak rfl rfl (az an rfl rfl rfl gn rfl (br (v':= .int .i64 n) rfl ?_));refine ab ⟨rfl,rfl,rfl,?_⟩;refine ak rfl rfl (dh rfl rfl rfl ?_);refine ab ⟨rfl,rfl,rfl,?_⟩;refine av rfl rfl rfl ?_;refine ab ⟨rfl,rfl,rfl,?_⟩;refine ah rfl rfl ?_;refine ab ⟨rfl,rfl,rfl,?_⟩;refine fo (aI ?_)
  first
  |(have Jy:kU n x=true:=by
     have:x=[]:=gm.1 (by omega);simp[kU,this]
    rw[Jy];exact aO rfl rfl ⟨_,hM,rfl,(fun h=>by cases h),S⟩)
  |(have eD:x.isEmpty=false:=by cases x with
     |nil=>simp at NZ
     |cons a t=>rfl
    have Yj:kU n x=decide (n≤q.1):=by unfold kU;rw[hm,eD,As hq];rfl
    rw[Yj];exact aO rfl rfl ⟨_,hM,rfl,fun _=>⟨_,gl,jb,Yf,gn,ke,by rw[cw,hx,dp,ic];exact ho⟩,S⟩)
theorem Jz {M:aD} {bl bn B i:Nat} {n:Int} {ls:List (List Po)} {x:List Po} {v0:Value} (w0:World) (hM:Lt M w0) (hB:B≤w0.heap.size) (hJ:vh bl bn n ls B i M w0) (hx:ls[i]? =some x) (hv:((RT.po).sl).V M w0 x v0) (hr:Room x) (mQ:i≤1000000000) (hm:dY (-1) x=false):
  Spec Tryz.prog 144 #[v0,.pointer (some ⟨bl,0,none⟩),.pointer (some ⟨bn,0,none⟩)] w0 (fun v w=>∃M',Lt M' w∧v= .bool (kU n x)∧(kU n x=false→vh bl bn n ls B (i+1) M' w)∧Step M w0 M' w (jE M B)):=by
 have hlen:=eR hv;obtain⟨vl,gl,jb,Yf,gn,ke,ho0⟩:=hJ;have nln:bl≠bn:=fun h=>by rw[h,gn]at gl;simp at gl
 obtain⟨ys,ho,OJ⟩:=ho0.cells rfl;rw[de,bS]at OJ;clear ho0;refine aR (args:=[_,_,_]) (fn:=Tryz.f144) Tryz.func144 rfl (n:=34) Tryz.ntmps144 ?_;have S:Step M w0 M w0 (jE M B):=(al _ _).bN (fun _ h=>h.elim) (fun _ h=>h.2);refine ai (ad (ah rfl rfl (ab (ai (ad (ae rfl rfl ?_))))));refine aJ rfl rfl Jv (qJ hM hv hr.ps hr.by_ hr.ln hr.tot) (fun r1 w1 hc=>?_);obtain⟨s1,fY,kx⟩:=hc;obtain rfl:=kx hm;have:=aj gl;replace jb:=(s1.mem _ this).2 jb;replace gl:=s1.aE gl;have:=aj gn;replace ke:=(s1.mem _ this).2 ke;replace gn:=s1.aE gn;replace hv:=hv.le s1.le;replace ho:=ho.aW s1;replace hM:=s1.lt hM;have:=S.size;replace S:=S.ax s1;refine ae rfl rfl (bu rfl rfl rfl (bu rfl rfl rfl (ah rfl rfl (ah rfl rfl (ab (ai (ad (az cZ rfl rfl rfl gl rfl (br (v':=vl) rfl (ae rfl rfl ?_))))))))));refine fa (A:=RT.cell) (hn:=by decide) (M:=M) cZ oN (by decide) rfl rfl hM (Jw (v:= .pointer none) rfl) (.inr ⟨rfl,rfl⟩) (fun Yg Yh kf mJ=>?_);have:=aj gl;replace jb:=(mJ.mem _ this).2 jb;replace gl:=mJ.aE gl;have:=aj gn;replace ke:=(mJ.mem _ this).2 ke;replace gn:=mJ.aE gn;replace hv:=hv.le mJ.le;replace ho:=ho.aW mJ;replace hM:=mJ.lt hM;have:=S.size;replace S:=S.ax mJ;refine cQ (M:=M) (base:=B) cZ oN rfl rfl rfl rfl ho kf (aq _ _) (by simp;omega) (by simp;omega) (by have:=S.size;omega) (fun NX Au Yi Hp mK=>?_);have:=aj gl;replace jb:=(mK.mem _ this).2 jb;replace gl:=mK.bB gl (fun h=>by first|exact ho.dF gl h|exact ho.ef gl (by decide) h|(have:=(ho.base _ h).1;omega));have:=aj gn;replace ke:=(mK.mem _ this).2 ke;replace gn:=mK.bB gn (fun h=>by first|exact ho.dF gn h|exact ho.ef gn (by decide) h|(have:=(ho.base _ h).1;omega))
 replace hv:=hv.le mK.le;replace kf:=kf.le mK.le;replace hM:=mK.lt hM;have:=S.size;replace S:=S.trans mK (fun k hk h=>⟨(ho.base k h).1,(S.mem k hk).1 (ho.mut_ k h)⟩);replace ho:=Hp;refine bL (M:=Au) xH rfl rfl gl rfl (by obtain⟨_,_,he,_⟩:=ho.isSlice;rw[he];rfl) jb (fun NY Hq lH=>?_);change NY.heap[_]? =some (Obj.cells #[NX] _ _)at Hq;have:=aj gl;replace jb:=(lH.mem _ this).2 jb;have:=aj gn;replace ke:=(lH.mem _ this).2 ke;replace gn:=lH.bB gn (fun hk=>by have hk:_=_:=hk;omega);replace hv:=hv.le lH.le;replace kf:=kf.le lH.le;replace ho:=ho.step lH (fun c hc (h:c=bl)=>ho.ef gl (by decide) (h▸hc));replace hM:=lH.lt hM;have:=S.size;replace S:=S.trans lH (fun k hk h=>by have h:_=_:=h;subst h;first|(exfalso;omega)|(show _≤_;omega)|exact⟨by first|omega|assumption,(S.mem _ hk).1 ((lH.mem _ (aj gl)).1 jb)⟩|exact .inl rfl|exact .inr rfl|exact .inr (.inl rfl)|exact .inr (.inr rfl)|exact .inr (.inr (.inl rfl))|exact rfl);have R6:=Hq;clear gl;have gl:=R6;clear R6;refine ab (ai ?_);apply T.kO mixed rfl rfl;intro Qk Ql;have mE:=Ql Au;have:=aj gl;replace jb:=(mE.mem _ this).2 jb;replace gl:=mE.aE gl;have:=aj gn;replace ke:=(mE.mem _ this).2 ke;replace gn:=mE.aE gn;replace hv:=hv.le mE.le;replace kf:=kf.le mE.le;replace ho:=ho.aW mE;replace hM:=mE.lt hM;have:=S.size;replace S:=S.ax mE;refine ae rfl rfl ?_;refine ab ⟨rfl,rfl,rfl,?_⟩;refine eg rfl rfl rfl ?_;refine ab ⟨rfl,rfl,rfl,?_⟩;refine ae rfl rfl ?_;refine ab ⟨rfl,rfl,rfl,?_⟩;refine Rg.qT (g:=18) rfl ((by decide)) (ao rfl rfl rfl rfl ?_);refine ab ⟨rfl,rfl,rfl,?_⟩;refine ao rfl rfl rfl rfl ?_;refine ab ⟨rfl,rfl,rfl,?_⟩;refine ao rfl rfl rfl rfl ?_;refine ab ⟨rfl,rfl,rfl,?_⟩;refine aP rfl rfl rfl ?_;refine ab ⟨rfl,rfl,rfl,?_⟩;refine ae rfl rfl ?_;refine ab ⟨rfl,rfl,rfl,?_⟩;refine ao rfl rfl rfl rfl ?_
 refine ab ⟨rfl,rfl,rfl,?_⟩;refine ao rfl rfl rfl rfl ?_;refine ab ⟨rfl,rfl,rfl,?_⟩;refine ao rfl rfl rfl rfl ?_;refine ab ⟨rfl,rfl,rfl,?_⟩;refine ao rfl rfl rfl rfl ?_;refine ab ⟨rfl,rfl,rfl,?_⟩;refine ao rfl rfl rfl rfl ?_;refine ab ⟨rfl,rfl,rfl,?_⟩;refine ao rfl rfl rfl rfl ?_;refine ab ⟨rfl,rfl,rfl,?_⟩;refine ao rfl rfl rfl rfl ?_;refine ab ⟨rfl,rfl,rfl,?_⟩;refine ao rfl rfl rfl rfl ?_;refine ab ⟨rfl,rfl,rfl,?_⟩;refine ao rfl rfl rfl rfl ?_;refine ab ⟨rfl,rfl,rfl,?_⟩;refine aP rfl rfl rfl ?_;refine ab ⟨rfl,rfl,rfl,?_⟩;refine ah rfl rfl ?_;refine ab ⟨rfl,rfl,rfl,?_⟩;refine fo (aI ?_);have Jy:kU n x=true:=by simp[kU,hm]
 rw[Jy];exact aO rfl rfl ⟨_,hM,rfl,(fun h=>by cases h),S⟩
theorem Hs {M:aD} {bl bn B i:Nat} {n:Int} {ls:List (List Po)} {x:List Po} {v0:Value} (w0:World) (hM:Lt M w0) (hB:B≤w0.heap.size) (hJ:vh bl bn n ls B i M w0) (hx:ls[i]? =some x) (hv:((RT.po).sl).V M w0 x v0) (hr:Room x) (mQ:i≤1000000000):
  Spec Tryz.prog 144 #[v0,.pointer (some ⟨bl,0,none⟩),.pointer (some ⟨bn,0,none⟩)] w0 (fun v w=>∃M',Lt M' w∧v= .bool (kU n x)∧(kU n x=false→vh bl bn n ls B (i+1) M' w)∧Step M w0 M' w (jE M B)):=by
 cases hm:dY (-1) x with
 |true=>exact NW w0 hM hB hJ hx hv hr mQ hm
 |false=>exact Jz w0 hM hB hJ hx hv hr mQ hm
end Go.K
namespace Go.K
open Go.Proofs
namespace TKBldH
theorem Ka:TI Tryz.prog 58 (.slice none 0 0) 1 24:=by unfold TI;kernel_rfl
theorem Kb:TI Tryz.prog 72 (.agg #[(.slice none 0 0),(.slice none 0 0),(.slice none 0 0),(.slice none 0 0)]) 4 96:=by unfold TI;kernel_rfl
theorem LZ:TI Tryz.prog 141 (.agg #[(.slice none 0 0),(.slice none 0 0),(.pointer none)]) 3 56:=by unfold TI;kernel_rfl
theorem xH:TI Tryz.prog 196 (.slice none 0 0) 1 24:=by unfold TI;kernel_rfl
theorem L0:placesOf Tryz.prog 141=[(0,1),(1,1),(2,1)].map some:=by kernel_rfl
theorem Iy:Enters Tryz.prog 51:=enters Tryz.func51 rfl (by decide)
theorem Vv:Enters Tryz.prog 92:=enters Tryz.func92 rfl (by decide)
theorem L3:Enters Tryz.prog 143:=enters Tryz.func143 rfl (by decide)
theorem Yl:Enters Tryz.prog 144:=enters Tryz.func144 rfl (by decide)
theorem L4:Enters Tryz.prog 146:=enters Tryz.func146 rfl (by decide)
theorem L5:Enters Tryz.prog 147:=enters Tryz.func147 rfl (by decide)
end TKBldH
open TKBldH
set_option maxRecDepth 10000
def ux (p:Pa):Bool:=decide (p.1.length=p.2.1.length)&&eI (-1) p.2.1&&p.2.2.2.all (fun x=> !kU (p.1.length:Int) x)&&decide (p.2.2.1.length=p.2.2.2.length)&&Ai none p.2.2.1
def KR (p:Pa):Se:=(p.1,p.2.1,p.2.2.1,p.2.2.2.map hG)
structure Ht (p:Pa):Prop where
 a:p.1.length≤1000000000
 b:p.2.1.length≤1000000000
 c:p.2.2.1.length≤1000000000
 d:p.2.2.2.length≤1000000000
 e:∀x∈p.2.2.2,Room x
theorem B4 {M:aD} {p:Pa} {v0:Value} (w0:World) (hM:Lt M w0) (hv:RT.pa.V M w0 p v0) (hR:Ht p):
  Spec Tryz.prog 92 #[v0] w0 (fun v w=>Step M w0 M w aw∧(ux p=true→cf RT.se M w v (KR p))∧(ux p=false→v= .pointer none)):=by
 have lu:=hM;obtain⟨hRa,hRb,hRc,hRd,hRe⟩:=hR;refine aR (args:=[_]) (fn:=Tryz.f92) Tryz.func92 rfl (n:=45) Tryz.ntmps92 ?_;have S:Step M w0 M w0 aw:=(al _ _).bN (fun _ h=>h.elim) (fun _ h=>h.elim);refine ai (ad ?_);refine Rg.ly (A:=RT.pa) rfl rfl hM hv rfl (fun u0 w1 cA s0 _=>?_);replace hM:=s0.lt hM;have:=S.size;replace S:=S.ax s0;refine ah rfl rfl (ab (ai (ad ?_)));refine aM (M:=M) (A:=RT.pa) (B:=(RT.int .i64).sl) bF rfl rfl lI (by decide) (pa0) rfl rfl (by decide) (by assumption) (by repeat (first|exact aq _ _|refine aU (bm (by assumption)) ?_)) (fun uP jC=>?_);refine bZ (M:=M) ar rfl rfl rfl rfl rfl (by assumption) (by repeat (first|exact aq _ _|refine aU (bm (by assumption)) ?_)) (fun uQ kD=>?_);replace kD:((RT.int .i64).sl).V M _ p.1 uQ:=kD;refine bM ar rfl kD rfl ?_;refine ew M I3 rfl (fun jq uI L8 L9 eC s1_3=>?_);obtain⟨jr,nz⟩:∃M',M'=ins M jq:=⟨_,rfl⟩;rw[←nz]at s1_3;have fv:jr jq:=by rw[nz];exact .inl rfl
 change uI.heap[jq]? =some (.cells #[.int .i64 0] _ _)at eC;replace cA:=cA.le (by decide) s1_3.le;replace hM:=s1_3.lt hM;have:=S.size;replace S:=S.ax s1_3;refine bL (M:=jr) I3 rfl rfl eC rfl (rfl) fv (fun Fo uJ gI=>?_);change Fo.heap[_]? =some (Obj.cells #[.int .i64 (p.1.length:Int)] _ _)at uJ;have:=aj eC;replace fv:=(gI.mem _ this).2 fv;replace cA:=cA.le (by decide) gI.le;replace hM:=gI.lt hM;have:=S.size;replace S:=S.trans gI (fun k hk h=>by have h:_=_:=h;subst h;first|(exfalso;omega)|(show _≤_;omega)|exact⟨by first|omega|assumption,(S.mem _ hk).1 ((gI.mem _ (aj eC)).1 fv)⟩|exact .inl rfl|exact .inr rfl|exact .inr (.inl rfl)|exact .inr (.inr rfl)|exact .inr (.inr (.inl rfl))|exact rfl);have nj:=uJ;clear eC;have eC:=nj;clear nj;refine ab (ai (ai (ad ?_)));refine aM (M:=jr) (A:=RT.pa) (B:=(RT.int .i64).sl) bF rfl rfl lI (by decide) (WV) rfl rfl (by decide) (by assumption) (by repeat (first|exact aq _ _|refine aU (bm (by assumption)) ?_)) (fun afP abL=>?_);refine bZ (M:=jr) ar rfl rfl rfl rfl rfl (by assumption) (by repeat (first|exact aq _ _|refine aU (bm (by assumption)) ?_)) (fun Ym Hu=>?_);replace Hu:((RT.int .i64).sl).V jr _ p.2.1 Ym:=Hu;refine bM ar rfl Hu rfl (az an rfl rfl rfl eC rfl (br (v':= .int .i64 (p.1.length:Int)) rfl (eg rfl rfl rfl (ae rfl rfl ?_))));refine aL (g:=16) rfl (fun Yn=>?_) (fun Yn=>?_)
 ·refine ao rfl rfl rfl rfl (ao rfl rfl rfl rfl (ao rfl rfl rfl rfl (ao rfl rfl rfl rfl (aP rfl rfl rfl (ab (kY rfl (ai (ad (ah rfl rfl (ab (aI ?_)))))))))))
  have eb:ux p=false:=by
   unfold ux
   first
   |(rw[decide_eq_false (show¬p.1.length=p.2.1.length by omega)];simp;done)
   |(simp[c2];done)
  exact aO rfl rfl ⟨S.back,fun h=>by(rw[eb]at h;cases h),fun _=>rfl⟩
 ·have KP:p.1.length=p.2.1.length:=by omega
  refine ak rfl rfl ?_;refine aM (M:=jr) (A:=RT.pa) (B:=(RT.int .i64).sl) bF rfl rfl lI (by decide) (WV) rfl rfl (by decide) (by assumption) (by repeat (first|exact aq _ _|refine aU (bm (by assumption)) ?_)) (fun afQ abM=>?_);refine ak rfl rfl ?_;refine bZ (M:=jr) ar rfl rfl rfl rfl rfl (by assumption) (by repeat (first|exact aq _ _|refine aU (bm (by assumption)) ?_)) (fun Yo Hv=>?_);replace Hv:((RT.int .i64).sl).V jr _ p.2.1 Yo:=Hv;refine ak rfl rfl ?_;refine aJ rfl rfl L3 (Ei _ Hv) (fun r wc hc=>?_);obtain⟨rfl,rfl⟩:=hc;refine ak rfl rfl (km rfl rfl (br (v':= .bool (decide (¬eI (-1) p.2.1=true))) (by simp) (av rfl rfl rfl (ab ?_))));refine bK rfl (fun c2=>?_) (fun c2=>?_)
  ·refine ai (ad (ah rfl rfl (ab (aI ?_))))
   have eb:ux p=false:=by
    unfold ux
    first
    |(rw[decide_eq_false (show¬p.1.length=p.2.1.length by omega)];simp;done)
    |(simp[c2];done)
   exact aO rfl rfl ⟨S.back,fun h=>by(rw[eb]at h;cases h),fun _=>rfl⟩
  ·have er:eI (-1) p.2.1=true:=fp.1 c2;refine aT (ai (ad ?_));refine ew jr xH rfl (fun Bd Be Vw Vx lZ ia=>?_);obtain⟨C9,Hw⟩:∃M',M'=ins jr Bd:=⟨_,rfl⟩;rw[←Hw]at ia;have N0:C9 Bd:=by rw[Hw];exact .inl rfl
   change Be.heap[Bd]? =some (.cells #[.slice none 0 0] _ _)at lZ;have:=aj eC;replace fv:=(ia.mem _ this).2 fv;replace eC:=ia.aE eC;replace cA:=cA.le (by decide) ia.le;replace hM:=ia.lt hM;have:=S.size;replace S:=S.ax ia;refine ab (ai (ad (gG (xs:=[]) (ys:=[.tmp 4,.tmp 3]) rfl rfl rfl (ah rfl rfl (ab (ai (ai (ad ?_))))))));refine aM (M:=C9) (A:=RT.pa) (B:=((RT.po).sl).sl) bF rfl rfl Ka (by decide) (pa3) rfl rfl (by decide) (by assumption) (by repeat (first|exact aq _ _|refine aU (bm (by assumption)) ?_)) (fun QN Ga=>?_);refine bZ (M:=C9) k4 rfl rfl rfl rfl rfl (by assumption) (by repeat (first|exact aq _ _|refine aU (bm (by assumption)) ?_)) (fun MU tD=>?_);replace tD:(((RT.po).sl).sl).V C9 _ p.2.2.2 MU:=tD;refine ae rfl rfl ?_;refine aJ rfl rfl L4 (vg (cap:=[.pointer (some ⟨Bd,0,none⟩),.pointer (some ⟨jq,0,none⟩)]) (B:=w0.heap.size) (J:=vh Bd jq (p.1.length:Int) p.2.2.2 w0.heap.size) (bad:=kU (p.1.length:Int)) _ hM tD Yl ⟨_,lZ,N0,by omega,eC,fv,eh _ _ _ _ _⟩ (fun i M w M' w' h s=>h.aW s) (fun i M w x vx hJ hM hx tz=>Hs w hM (by obtain⟨_,h1,_,h2,_⟩:=hJ;have:=aj h1;omega) hJ hx tz (hRe x (aN hx)) (by have:=(au.1 hx).1;omega))) (fun r6 w6 hc=>?_);obtain⟨M6,k6,rfl,hk6,Hg,s6,hk7,hk8⟩:=hc;replace cA:=cA.le (by decide) s6.le;replace S:=S.jR s6 (aZ _);refine ab ?_;refine bK rfl (fun c6=>?_) (fun c6=>?_)
   ·obtain⟨x6,hx6,nV⟩:=hk8 c6
    have eb:ux p=false:=by
     unfold ux;have:p.2.2.2.all (fun x=> !kU (p.1.length:Int) x)=false:=List.all_eq_false.2 ⟨x6,hx6,by simp[nV]⟩;simp[this]
    refine ai (ad (ah rfl rfl (ab (aI ?_))));exact aO rfl rfl ⟨S.back,fun h=>by(rw[eb]at h;cases h),fun _=>rfl⟩
   ·refine aT (ai (ad ?_));obtain⟨nV,⟨vl,gl,_,_,_,_,o2⟩⟩:=hk7 (by omega);rw[bT (aZ _)]at o2;have jA:(((RT.li).ptr).sl).V M w6 (p.2.2.2.map hG) vl:=o2.close lu S (by simp;omega);replace cA:cf RT.pa M w6 u0 p:=cA.le (by decide) (Le.close lu S);replace S:=S.back;replace hM:=S.lt lu;refine aM (M:=M) (A:=RT.pa) (B:=RT.str.sl) bF rfl rfl CD (by decide) pa2 rfl rfl (by decide) cA (aq _ _) (fun afU abN=>?_);refine bZ (M:=M) aV rfl rfl rfl rfl rfl (by assumption) (by repeat (first|exact aq _ _|refine aU (bm (by assumption)) ?_)) (fun Yp Hx=>?_);replace Hx:(RT.str.sl).V M _ p.2.2.1 Yp:=Hx;refine az cZ rfl rfl rfl gl rfl (br (v':=vl) rfl ?_);refine aJ rfl rfl L5 (BW _ hM Hx jA (by omega) (by simp;omega)) (fun r8 w8 hc=>?_);obtain⟨pd,rfl,H3,s8⟩:=hc;replace cA:=cA.le (by decide) s8.le;replace jA:=jA.le s8.le;replace gl:=s8.aE gl;replace hM:=s8.lt hM;have:=S.size;replace S:=S.ax s8;refine ae rfl rfl (bu rfl rfl rfl (bu rfl rfl rfl (ah rfl rfl (ah rfl rfl (ab (ai (ai (ad (ae rfl rfl (eg rfl rfl rfl (ab ?_)))))))))));refine bK rfl (fun c9=>?_) (fun c9=>?_)
    ·have eb:ux p=false:=by
      by_cases h:ux p=true
      ·unfold ux at h;simp only[bD,decide_eq_true_eq]at h;exact absurd (by rw[if_pos ⟨by simp[h.1.2],h.2⟩]) c9
      ·simpa using h
     refine ai (ad (ah rfl rfl (ab (aI ?_))));exact aO rfl rfl ⟨S.back,fun h=>by(rw[eb]at h;cases h),fun _=>rfl⟩
    ·have e9:(p.2.2.1.length=(p.2.2.2.map hG).length∧Ai none p.2.2.1=true):=by
      by_cases h:(p.2.2.1.length=(p.2.2.2.map hG).length∧Ai none p.2.2.1=true)
      ·exact h
      ·exact absurd (by rw[if_neg h];decide) c9
     replace H3:=H3 e9.1 e9.2;refine aT (ai ?_);apply T.Fh [0,1,3,4,6,2,5,7,8,9] 5 [2,3,4] 2 aw mixed
     ·simp+decide only[vU,qq,eL,List.map_nil,ur,uu,p6,ek,mL,List.idxOf_cons,cond_true,cond_false,Nat.reduceBEq,Nat.reduceAdd,beq_self_eq_true];rfl
     ·rfl
     ·rfl
     ·rfl
     ·rfl
     ·rfl
     ·rfl
     intro DK Fp;have gS:=Fp M;replace cA:=cA.le (by decide) gS.le;replace jA:=jA.le gS.le;replace gl:=gS.aE gl;replace hM:=gS.lt hM;have:=S.size;replace S:=S.ax gS;refine aM (M:=M) (A:=RT.pa) (B:=(RT.int .i64).sl) bF rfl rfl lI (by decide) (pa0) rfl rfl (by decide) (by assumption) (by repeat (first|exact aq _ _|refine aU (bm (by assumption)) ?_)) (fun KA Gd=>?_);refine ab ⟨rfl,rfl,rfl,?_⟩;refine bZ (M:=M) ar rfl rfl rfl rfl rfl (by assumption) (by repeat (first|exact aq _ _|refine aU (bm (by assumption)) ?_)) (fun R7 B5=>?_);replace B5:((RT.int .i64).sl).V M _ p.1 R7:=B5;refine ab ⟨rfl,rfl,rfl,?_⟩;refine aM (M:=M) (A:=RT.pa) (B:=(RT.int .i64).sl) bF rfl rfl lI (by decide) (WV) rfl rfl (by decide) (by assumption) (by repeat (first|exact aq _ _|refine aU (bm (by assumption)) ?_)) (fun abO N1=>?_);refine ab ⟨rfl,rfl,rfl,?_⟩;refine bZ (M:=M) ar rfl rfl rfl rfl rfl (by assumption) (by repeat (first|exact aq _ _|refine aU (bm (by assumption)) ?_)) (fun R8 mf=>?_);replace mf:((RT.int .i64).sl).V M _ p.2.1 R8:=mf;refine ab ⟨rfl,rfl,rfl,?_⟩;refine ae rfl rfl ?_;refine ab ⟨rfl,rfl,rfl,?_⟩;refine fo ?_;obtain⟨bb,oo,cs,ee,fr,rfl,kB,_⟩:=N1.float;refine⟨gO ⟨fQ bF rfl lI (by decide),⟨ey rfl kB (fun h=>h),⟨eN,trivial⟩⟩⟩,?_⟩;have kp:=iw aw DK;refine aJ rfl rfl Iy (tR hM B5 (by omega)) (fun v5 w5 hc=>?_);obtain⟨oe,s5⟩:=hc;replace mf:=mf.le s5.le;replace H3:=(H3.le (by decide) gS.le).le (by decide) s5.le;replace cA:=cA.le (by decide) s5.le;replace jA:=jA.le s5.le;replace gl:=s5.aE gl;replace hM:=s5.lt hM;have:=S.size;replace S:=S.ax s5;refine(fun(kp:ed _ _ _)=>ab ⟨rfl,rfl,fun _=>kp,?_⟩) (by first|exact kp|exact kp.o0 (by assumption)|exact kp.goN (by assumption)|exact kp.go (by assumption) (fun _ _ h=>by first|exact h|exact h.elim))
     refine aJ rfl rfl Iy (tR hM mf (by omega)) (fun v6 w6' hc=>?_);obtain⟨nw,KS⟩:=hc;replace cA:=cA.le (by decide) KS.le;replace jA:=jA.le KS.le;replace oe:=oe.le KS.le;replace mf:=mf.le KS.le;replace H3:=H3.le (by decide) KS.le;replace gl:=KS.aE gl;replace hM:=KS.lt hM;have:=S.size;replace S:=S.ax KS;refine(fun(kp:ed _ _ _)=>ab ⟨rfl,rfl,fun _=>kp,?_⟩) (by first|exact kp|exact kp.o0 (by assumption)|exact kp.goN (by assumption)|exact kp.go (by assumption) (fun _ _ h=>by first|exact h|exact h.elim));refine dO (places:=[(0,1),(1,1),(2,1)]) Tryz.underlying141 LZ L0 rfl ⟨_,_,rfl,rfl,_,_,rfl,rfl,_,_,rfl,rfl,rfl⟩ (out:=[_,_,_]) ⟨0,[_],rfl,jc oe,by simp[Value.cells],1,[_],rfl,jc nw,by simp[Value.cells],2,[_],rfl,qI H3,by simp[Value.cells],rfl⟩ ?_;refine ab ⟨rfl,rfl,fun h=>absurd rfl h,?_⟩;refine Rg.ly (A:=RT.se) (a:=KR p) rfl rfl hM (WW (x:=KR p) oe nw H3) rfl (fun u8 w8' hu8 JA _=>?_);replace cA:=cA.le (by decide) JA.le;replace jA:=jA.le JA.le;replace oe:=oe.le JA.le;replace mf:=mf.le JA.le;replace H3:=H3.le (by decide) JA.le;replace nw:=nw.le JA.le;replace gl:=JA.aE gl;replace hM:=JA.lt hM;have:=S.size;replace S:=S.ax JA;refine ab ⟨rfl,rfl,fun h=>absurd rfl h,?_⟩;refine ah rfl rfl ?_;refine ab ⟨rfl,rfl,fun h=>absurd rfl h,?_⟩;refine oC (aI ?_)
     have eb:ux p=true:=by
      unfold ux;rw[decide_eq_true KP,er,e9.2,decide_eq_true (by simpa using e9.1),dR.2 (fun x hx=>by simp[nV x hx])];rfl
     exact aO rfl rfl ⟨S.back,fun _=>hu8,fun h=>by(rw[eb]at h;cases h)⟩
theorem B6 {M:aD} {p:Pa} {v0:Value} (w0:World) (hM:Lt M w0) (hv:RT.pa.V M w0 p v0) (hR:Ht p):
  Spec Tryz.prog 43 #[v0] w0 (fun v w=>Step M w0 M w aw∧(ux p=true→∃s,v= .tuple #[s,.int .i64 0]∧cf RT.se M w s (KR p))∧(ux p=false→v= .tuple #[.pointer none,.int .i64 1])):=by
 refine aR (args:=[_]) (fn:=Tryz.f43) Tryz.func43 rfl (n:=10) Tryz.ntmps43 ?_;have S:Step M w0 M w0 aw:=(al _ _).bN (fun _ h=>h.elim) (fun _ h=>h.elim);refine ai (ad ?_);refine Rg.ly (A:=RT.pa) rfl rfl hM hv rfl (fun u0 w1 cA s0 _=>?_);replace hM:=s0.lt hM;have:=S.size;replace S:=S.ax s0;refine ah rfl rfl (ah rfl rfl (ab (ai (ad ?_))));refine cM (M:=M) (A:=RT.pa) bF rfl Kb (by decide) rfl rfl rfl cA (aq _ _) (fun v1 uw=>?_);refine aJ rfl rfl Vv (B4 _ hM uw hR) (fun r1 w2 hc=>?_);obtain⟨s2,fY,kx⟩:=hc
 obtain⟨o1,TT⟩:∃o,r1= .pointer o:=by
  cases h:ux p with
  |true=>obtain⟨b,o,_,h1,_⟩:=fY h;exact⟨_,h1⟩
  |false=>exact⟨none,kx h⟩
 subst TT;replace cA:=cA.le (by decide) s2.le;replace hM:=s2.lt hM;have:=S.size;replace S:=S.ax s2;refine ah rfl rfl (ab (ai (ai (ad (ae rfl rfl (Rg.oa qQ rfl rfl rfl (ab ?_)))))));refine bK rfl (fun c2=>?_) (fun c2=>?_)
 ·refine ai (ad (ah rfl rfl (ah rfl rfl (ab (aI ?_)))))
  have eb:ux p=false:=by
   by_cases h:ux p=true
   ·obtain⟨b,o,_,h1,_⟩:=fY h;rw[c2]at h1;cases h1
   ·simpa using h
  exact dX rfl rfl rfl ⟨S.back,fun h=>by(rw[eb]at h;cases h),fun _=>rfl⟩
 ·refine aT (ai (ad (ae rfl rfl (ah rfl rfl (ah rfl rfl (ab (aI ?_)))))))
  have eb:ux p=true:=by
   by_cases h:ux p=true
   ·exact h
   ·have:=kx (by simpa using h);simp at this;exact absurd this c2
  exact dX rfl rfl rfl ⟨S.back,fun _=>⟨_,rfl,fY eb⟩,fun h=>by(rw[eb]at h;cases h)⟩
end Go.K
namespace Go.K
section
variable {P:Program} {r:Option Nat} {n:Nat} {L:Sl} {ds:List Deferred} {w:World} {K:Kt} {M:aD} {F:List (Nat×aD)}
def pU (l:List Oper) (m q d:Nat):Bool:=
 Nat.blt q m&&kz l [q] m ((l[m]?.map bX).getD [])&&iC l (m+1)&&
 ((List.range' m (l.length-m)).all fun j=>match l[j]? with
  |some o=>oJ o.op&&(!(asks l o).contains d||(bX o).contains q)
  |none=>true)
theorem rr {l:List Oper} {m q d:Nat} (h:pU l m q d=true):q<m∧kz l [q] m ((l[m]?.map bX).getD [])=true∧iC l (m+1)=true∧∀j o,m≤j→l[j]? =some o→oJ o.op=true∧(d∈asks l o→q∈bX o):=by
 simp only[pU,bD,Nat.blt_eq]at h;obtain⟨⟨⟨h1,h2⟩,h3⟩,h4⟩:=h;refine⟨h1,h2,h3,fun j o hj ho=>?_⟩;have dA:=(au.1 ho).1;have:=dR.1 h4 j (List.mem_range'_1.2 ⟨hj,by omega⟩);rw[ho]at this;simp only[bD,Bool.or_eq_true,oG,fJ]at this;refine⟨this.1,fun hd=>?_⟩;rcases this.2 with h|h
 ·rw[←Bool.not_eq_true,fJ]at h;exact absurd hd h
 ·exact h
structure TJ (P:Program) (r:Option Nat) (n:Nat) (l:List Oper) (m q d:Nat) (c:Value) (L:Sl) (K:Kt) (ds:List Deferred) (D:Nat→Prop) (a:Act) (w:World) (p:Nat) (ac:Act) (Lp:Sl) (wq:World):Prop where
 p0:m≤p
 p1:p≤l.length
 dt:∀i,i<l.length→i≠q→(D i↔i<p)
 ag:fT n ac Lp ds
 tr:qh P r n l.toArray aw wq K 0 (l.drop p) Lp ds w
 yes:D q→a=ac
 no: ¬D q→ac=a.put (some d) c∧∀t u,lk (iz l q L) t=some u→a.tmps[t]? =some u
theorem put_comm (a:Act) {d:Nat} {e:Option Nat} (h:e≠some d) (c v:Value):(a.put (some d) c).put e v=(a.put e v).put (some d) c:=by
 cases e with
 |none=>rfl
 |some e=>
  have eD:e≠d:=fun h'=>h (by rw[h'])
  simp only[Act.put];congr 1;apply Array.ext_getElem?;intro i;simp only[cH,Array.size_setIfInBounds];by_cases h1:e=i<;>by_cases h2:d=i<;>simp_all
theorem wU (a:Act) {d t:Nat} (c:Value) (h:t≠d):(a.put (some d) c).tmps[t]? =a.tmps[t]? :=by rw[fN,if_neg (fun e=>h (by injection e with e;exact e.symm))]
theorem TJ.next {l:List Oper} {m q d:Nat} {c:Value} (cy:dN l 0=true) (fY:pU l m q d=true) {oq:Oper} (hq:l[q]? =some oq) (B7:oq.dst=some d) (N4:gU oq.op=true) (JB:oq.guard=none)
  (fk:∀(ρ:Operand→Value) w,(∀x u,ev (iz l q L) x=some u→ρ x=u)→(execOp ρ oq).run P w= .ok (.value c) w)
  {Q:Exit→Act→World→Prop} {D:Nat→Prop} {a:Act} {w:World} {j:Nat} {o:Oper} {rest:List Nat} (ho:l[j]? =some o) (mP: ¬D j) (hp:∀k∈bX o,D k) {p:Nat} {ac:Act} {Lp:Sl} {wq:World} (hi:TJ P r n l m q d c L K ds D a w p ac Lp wq)
  (hk:∀a' w',(∃p ac Lp wq,TJ P r n l m q d c L K ds (fun i=>i=j∨D i) a' w' p ac Lp wq)→wpOpsIn (FW r) 0 P l.toArray Q rest a' w'):wpOpsIn (FW r) 0 P l.toArray Q (j::rest) a w:=by
 obtain⟨hqm,_,so,JX⟩:=rr fY;have pY:=(au.1 ho).1;by_cases TZ:j=q
 ·subst TZ;rw[hq]at ho;cases ho;obtain⟨Da,jh⟩:=hi.no mP;refine One.run (by simpa using hq) N4 (v:=c) ?_ (hk _ _ ⟨p,ac,Lp,wq,hi.p0,hi.p1,fun i h1 h2=>⟨fun h=>(hi.dt i h1 h2).1 (h.resolve_left h2),fun h=> .inr ((hi.dt i h1 h2).2 h)⟩,hi.ag,hi.tr,fun _=>by rw[Da,B7],fun h=>absurd (.inl rfl) h⟩);unfold One;rw[if_pos (by simp[Region.wanted,JB])];refine fk a.eval w fun x u hx=> ?_
  cases x with
  |tmp t=>simp only[ev]at hx;simp[Act.eval,jh t u hx]
  |const v=>simp only[ev]at hx;cases hx;rfl
  |global g=>simp only[ev]at hx;cases hx;rfl
  |func f=>simp only[ev]at hx;cases hx;rfl
 ·have Ux:j=p:=by
   have h1:p≤j:=by
    rcases ec j p with h|h
    ·exact absurd ((hi.dt j pY TZ).2 h) mP
    ·exact h
   have:=hi.p0;rcases ec m j with h|h
   ·have h2:=hp _ (iT so (j:=j) (by omega) ho);have:=(hi.dt (j-1) (by omega) (by omega)).1 h2;omega
   ·omega
  subst Ux;obtain⟨Px,hta⟩:=JX j o hi.p0 ho;have xo:o.dst≠some d:=fun h=>TZ (eM cy ho hq h B7)
  have yu:∀t∈asks l o,a.tmps[t]? =ac.tmps[t]? :=fun t ht=>by
   by_cases hD:D q
   ·rw[hi.yes hD]
   ·rw[(hi.no hD).1,wU];rintro rfl;exact hD (hp q (hta ht))
  obtain⟨Ey,yH⟩:=la yu
  have To:a.defers=ac.defers:=by
   by_cases hD:D q
   ·rw[hi.yes hD]
   ·rw[(hi.no hD).1,put_defers]
  have vH:=hi.tr;rw[fI pY,(au.1 ho).2]at vH;have h1:=Rg.run vH ac hi.ag;refine yO (by simpa using ho) Px Ey yH To h1 (fun e a w ⟨_,_,_,he,_⟩=>he) (fun v w' ⟨L',kK,hA,_,E1,_,Lx⟩=>?_) (fun d' w' ⟨L',kK,hA,_,E1,_⟩=>?_)
  ·rw[E1]at hA;refine hk _ _ ⟨j+1,ac.put o.dst v,L',wq,by have:=hi.p0;omega,by omega,fun i h3 h4=>?_,hA,Lx,fun h=>?_,fun h=>?_⟩
   ·constructor
    ·rintro(h|h)
     ·omega
     ·have:=(hi.dt i h3 h4).1 h;omega
    ·intro h;rcases mS (show i≤j by omega)with h5|h5
     ·exact .inl h5
     ·exact .inr ((hi.dt i h3 h4).2 h5)
   ·rw[hi.yes (h.resolve_left (fun e=>TZ e.symm))]
   ·have hD: ¬D q:=fun h'=>h (.inr h')
    obtain⟨Da,jh⟩:=hi.no hD;refine⟨by rw[Da,put_comm a xo],fun t u ht=>?_⟩;obtain⟨h3,h4⟩:=ie (f:=ji l q) ht;rw[fN,if_neg,jh t u ht];intro e;simp only[ji,dR]at h3;have:=h3 o (aN ho);simp only[e,beq_self_eq_true,Bool.not_true,Bool.false_or,fJ]at this;exact hD (hp q this)
  ·have h3:=hA.defers;rw[put_defers,E1]at h3;have h4:=congrArg List.length h3;rw[hi.ag.defers]at h4;simp at h4
theorem gH.N5 {l:List Oper} {wd:World} (m q d:Nat) (c:Value) {oq:Oper} (F:List (Nat×aD)) (S:List (b5 M)) (Lu:S.length=m) (qb:Nat.blt m l.length=true) (cy:dN l 0=true) (fY:pU l m q d=true)
  (hq:l[q]? =some oq) (B7:oq.dst=some d) (N4:gU oq.op=true) (JB:oq.guard=none) (hS:S[q]? =some (b5.eq c)) (fk:∀(ρ:Operand→Value) w,(∀x u,ev (iz l q L) x=some u→ρ x=u)→(execOp ρ oq).run P w= .ok (.value c) w)
  (lM:∀p∈F,∀b,p.2 b→M b) (hFq:∀p∈F,p.1≠q) (qV:yJ F l S) (qW:bE P r n F wd l S ds L l S 0)
  (iA:∀w',Step M wd M w' (gL (F.map (·.2)))→fF w' (fun acc=>qh P r n l.toArray aw w' K 0 (l.drop m) (acc++iz l l.length L) ds w') l S []):gH P r n l L ds wd K:=by
 intro a0 ha;obtain⟨hqm,E2,so,JX⟩:=rr fY;have R9:m<l.length:=by simpa[Nat.blt_eq]using qb
 have start:∀(D:Nat→Prop) a w,(∀i,i<m→i≠q→D i)→(∀i,m≤i→i<l.length→¬D i)→(∀i o,l[i]? =some o→D i→∀k∈bX o,D k)→Inv F S l wd L ds n (fun i=>D i∧i<l.length) a w→∃p ac Lp wq,TJ P r n l m q d c L K ds D a w p ac Lp wq:=by
  intro D a w k7 kx ky hi
  obtain⟨ac,Da⟩:∃ac,(D q→a=ac)∧(¬D q→ac=a.put (some d) c):=by
   by_cases hD:D q
   ·exact⟨a,fun _=>rfl,fun h=>absurd hD h⟩
   ·exact⟨_,fun h=>absurd h hD,fun _=>rfl⟩
  have hqn:d<n∨n≤d:=ec d n
  have jj:n≤ac.tmps.size:=by
   by_cases hD:D q
   ·rw[←Da.1 hD];exact hi.size
   ·rw[Da.2 hD,k8];exact hi.size
  have To:ac.defers=ds:=by
   by_cases hD:D q
   ·rw[←Da.1 hD];exact hi.defers
   ·rw[Da.2 hD,put_defers];exact hi.defers
  have Hy:∀t,t≠d→ac.tmps[t]? =a.tmps[t]? :=fun t ht=>by
   by_cases hD:D q
   ·rw[←Da.1 hD]
   ·rw[Da.2 hD,wU a c ht]
  have Yq:d<a.tmps.size:=by
   have hg:=qW.take.get q oq (by rw[dm,Lu,if_pos hqm];exact hq);by_cases hD:D q
   ·obtain⟨v,h1,_⟩:=hi.done q oq (b5.eq c) d hq hS ⟨hD,by omega⟩ B7;exact(Array.getElem?_eq_some_iff.1 h1).1
   ·refine Classical.byContradiction fun AP=> ?_
    obtain⟨s,hs,Sa⟩:=hg;rw[Nat.zero_add]at Sa;rw[hS]at hs;cases hs
    have hpq:∀k∈bX oq,D k:=fun k hk=>by
     have:=ch cy q oq hq k hk;exact k7 k (by omega) (by omega)
    have:=Inv.next (r:=r) (P:=P) hi cy qV lM (rest:=[]) (Q:=fun _ a' _=>n≤a'.tmps.size∧∃v,a'.tmps[d]? =some v) ⟨b5.eq c,hS,Sa⟩ hq (fun h=>hD h.1) (fun k hk=>⟨hpq k hk,by have:=ch cy q oq hq k hk;omega⟩) (fun a' w' fK=>by
     obtain⟨v,h1,_⟩:=fK.done q oq (b5.eq c) d hq hS (.inl rfl) B7;exact⟨fK.size,v,h1⟩)
    have qc:One P r l.toArray w oq a c:=by
     unfold One;rw[if_pos (by simp[Region.wanted,JB])];refine fk a.eval w fun x u hx=> ?_
     have jh:∀t u,lk (iz l q L) t=some u→a.tmps[t]? =some u:=fun t u ht=>by
      obtain⟨h3,h4⟩:=ie (f:=ji l q) ht;refine hi.base t u h4 fun i o gq yw he=> ?_
      simp only[ji,dR]at h3;have:=h3 o (aN gq);simp only[he,beq_self_eq_true,Bool.not_true,Bool.false_or,fJ]at this;exact hD (ky i o gq yw.1 q this)
     cases x with
     |tmp t=>simp only[ev]at hx;simp[Act.eval,jh t u hx]
     |const v=>simp only[ev]at hx;cases hx;rfl
     |global g=>simp only[ev]at hx;cases hx;rfl
     |func f=>simp only[ev]at hx;cases hx;rfl
    simp only[wpOpsIn,gM,hq]at this;rw[if_pos (by simp[Region.wanted,JB])]at this;obtain⟨_,h2⟩:=this;unfold One at qc;rw[if_pos (by simp[Region.wanted,JB])]at qc;rw[Oper.semAt_eq _ _ _ (jW N4),qc]at h2;rw[Oper.uponIn_value]at h2;obtain⟨_,v,h3⟩:=h2;rw[B7]at h3;have:=(Array.getElem?_eq_some_iff.1 h3).1;simp[Act.put]at this;exact AP this
  have Yr:∃v,ac.tmps[d]? =some v∧v=c:=by
   by_cases hD:D q
   ·rw[←Da.1 hD];obtain⟨v,h1,h2⟩:=hi.done q oq (b5.eq c) d hq hS ⟨hD,by omega⟩ B7;exact⟨v,h1,h2⟩
   ·refine⟨c,?_,rfl⟩;rw[Da.2 hD,fN,if_pos rfl];simp[cH,Yq]
  have ga:∀{i:Nat} {o:Oper},(l.take m)[i]? =some o→l[i]? =some o∧i<m:=fun {i o} h=>by
   rw[dm]at h
   split at h
   ·exact⟨h,by assumption⟩
   ·cases h
  have iI:Step M wd M w (gL (F.map (·.2))):=hi.step.bN (fun b ⟨p,hp,hD,hb⟩=>ez.2 ⟨p.2,cx.2 ⟨p,hp,rfl⟩,hb⟩) (fun b hb=>by
   obtain⟨N,hN,yv⟩:=ez.1 hb;obtain⟨p,hp,rfl⟩:=cx.1 hN;exact lM p hp b yv)
  have hE:=(iA w iI).take;rw[Lu]at hE
  obtain⟨acc,h1,h2⟩:=fF.use (a:=ac) (l.take m) S [] (fun i o s h1 h2 h3=>by
    obtain⟨h4,h5⟩:=ga h1;by_cases KT:i=q
    ·subst KT;rw[hq]at h4;cases h4;rw[B7]at h3;cases h3
    ·exact hi.fin i o s h4 h2 ⟨k7 i h5 KT,by omega⟩ h3)
   (fun i o s e h1 h2 h3=>by
    obtain⟨h4,h5⟩:=ga h1;by_cases KT:i=q
    ·subst KT;rw[hq]at h4;cases h4;rw[B7]at h3;cases h3;rw[hS]at h2;cases h2;exact Yr
    ·obtain⟨v,h6,h7⟩:=hi.done i o s e h4 h2 ⟨k7 i h5 KT,by omega⟩ h3;exact⟨v,by rw[Hy e (fun he=>KT (eM cy h4 hq h3 (by rw[B7,he])))];exact h6,h7⟩)
   (fun t v h=>by simp[lk]at h) hE
  refine⟨m,ac,_,w,aZ _,by omega,fun i h3 h4=>⟨fun h=>?_,fun h=>k7 i h h4⟩,⟨jj,To,fun t v h=>?_⟩,h1,Da.1,fun hD=>⟨Da.2 hD,fun t u ht=>?_⟩⟩
  ·rcases ec i m with h5|h5
   ·exact h5
   ·exact absurd h (kx i h5 h3)
  ·rcases jI h with h|h
   ·exact h2 t v h
   ·obtain⟨h3,h4⟩:=ie (f:=ji l l.length) h
    have eD:∀(i:Nat) (o:Oper),l[i]? =some o→o.dst≠some t:=fun i o gq he=>by
     simp only[ji,dR]at h3;have:=h3 o (aN gq);simp only[he,beq_self_eq_true,Bool.not_true,Bool.false_or,fJ]at this;have h7:=ch cy i o gq _ this;have h8:=(au.1 gq).1;omega
    rw[Hy t (fun e=>eD q oq hq (by rw[B7,e]))];exact hi.base t v h4 fun i o gq _=>eD i o gq
  ·obtain⟨h3,h4⟩:=ie (f:=ji l q) ht;refine hi.base t u h4 fun i o gq yw he=> ?_
   simp only[ji,dR]at h3;have:=h3 o (aN gq);simp only[he,beq_self_eq_true,Bool.not_true,Bool.false_or,fJ]at this;exact hD (ky i o gq yw.1 q this)
 refine⟨fun D a w=>((∀i,m≤i→i<l.length→¬D i)∧Inv F S l wd L ds n (fun i=>D i∧i<l.length) a w)∨∃p ac Lp wq,TJ P r n l m q d c L K ds D a w p ac Lp wq,fun D D' a w hJ hD=>?_,fun Q D a w j o rest hj ho mP hp ky hJ hk=>?_,fun a w hJ=>?_,.inl ⟨fun i _ _ h=>h,?_⟩⟩
 ·rcases hJ with⟨h1,h2⟩|⟨p,ac,Lp,wq,h⟩
  ·refine .inl ⟨fun i h3 h4 h5=>h1 i h3 h4 ((hD i h4).1 h5),?_⟩;have:(fun i=>D' i∧i<l.length)=fun i=>D i∧i<l.length:=funext fun i=>propext ⟨fun⟨h3,h4⟩=>⟨(hD i h4).1 h3,h4⟩,fun⟨h3,h4⟩=>⟨(hD i h4).2 h3,h4⟩⟩
   rw[this];exact h2
  ·exact .inr ⟨p,ac,Lp,wq,h.p0,h.p1,fun i h3 h4=>(hD i h3).trans (h.dt i h3 h4),h.ag,h.tr,fun h3=>h.yes ((hD q (by omega)).1 h3),fun h3=>h.no fun h4=>h3 ((hD q (by omega)).2 h4)⟩
 ·rcases hJ with⟨h1,h2⟩|⟨p,ac,Lp,wq,h⟩
  ·rcases ec j m with yx|yx
   ·have hg:=qW.take.get j o (by rw[dm,Lu,if_pos yx];exact ho);rw[Nat.zero_add]at hg;refine h2.next cy qV lM hg ho (fun h=>mP h.1) (fun k sm=>⟨hp k sm,by have:=ch cy j o ho k sm;omega⟩) fun a' w' fK=>hk a' w' (.inl ⟨fun i h3 h4 h5=>?_,?_⟩)
    ·rcases h5 with h5|h5
     ·omega
     ·exact h1 i h3 h4 h5
    ·have:(fun i=>(i=j∨D i)∧i<l.length)=fun i=>i=j∨D i∧i<l.length:=funext fun i=>propext ⟨fun⟨h3,h4⟩=>h3.elim .inl fun h=> .inr ⟨h,h4⟩,fun h=>h.elim (fun h=>⟨.inl h,by omega⟩) fun h=>⟨.inr h.1,h.2⟩⟩
     rw[this];exact fK
   ·have Ys:j=m:=by
     rcases ec m j with h|h
     ·have:=hp _ (iT so (j:=j) (by omega) ho);exact absurd this (h1 (j-1) (by omega) (by omega))
     ·omega
    subst Ys;rw[ho]at E2;obtain⟨p,ac,Lp,wq,h⟩:=start D a w (fun i hi KT=>kA (D:=D) ky j (bX o) E2 hp i hi (by simpa using KT)) h1 ky h2;exact h.next cy fY hq B7 N4 JB fk ho mP hp fun a' w' h'=>hk a' w' (.inr h')
  ·exact h.next cy fY hq B7 N4 JB fk ho mP hp fun a' w' h'=>hk a' w' (.inr h')
 ·rcases hJ with⟨h1,_⟩|⟨p,ac,Lp,wq,h⟩
  ·exact absurd R9 (h1 m (aZ _) R9)
  ·have sr:p=l.length:=by
    rcases ec p l.length with h3|h3
    ·have h4:=(h.dt p h3 (by have:=h.p0;omega)).1 h3;omega
    ·have:=h.p1;omega
   have vH:=h.tr;rw[sr,List.drop_length]at vH;exact⟨Lp,ds,by rw[h.yes (by show q<l.length;omega)];exact h.ag,vH⟩
 ·refine⟨(al M wd).bN (fun _ h=>h.elim) (fun b ⟨p,hp,_,hb⟩=>lM p hp b hb),fun i o s _ _ h=>h.1.elim,ha.size,ha.defers,fun i o s e _ _ h=>h.1.elim,fun t v h _=>ha.at_ t v h,fun i o _ h=>h.1.elim⟩
theorem T.Sb {id:Nat} {l l':List Oper} (π:List Nat) (m q d:Nat) (c:Value) {oq:Oper} (F:List (Nat×aD)) (S:List (b5 M)) (hm:P.follows .mixedOrders=true) (Fi:vU π l=l') (rf:dN l 0=true) (hπ:j4 π l.length=true) (Lu:S.length=m) (qb:Nat.blt m l'.length=true) (cy:dN l' 0=true) (fY:pU l' m q d=true)
  (hq:l'[q]? =some oq) (B7:oq.dst=some d) (N4:gU oq.op=true) (JB:oq.guard=none) (hS:S[q]? =some (b5.eq c)) (fk:∀(ρ:Operand→Value) w,(∀x u,ev (iz l' q L) x=some u→ρ x=u)→(execOp ρ oq).run P w= .ok (.value c) w)
  (lM:∀p∈F,∀b,p.2 b→M b) (hFq:∀p∈F,p.1≠q) (qV:yJ F l' S)
  (h:∀wD,(∀M,Step M w M wD aw)→bE P r n F wD l' S ds L l' S 0∧∀w',Step M wD M w' (gL (F.map (·.2)))→fF w' (fun acc=>qh P r n l'.toArray aw w' K 0 (l'.drop m) (acc++iz l' l'.length L) ds w') l' S []):T P r n (.region id l.toArray true) L ds w K:=by
 subst Fi;exact gH.t hm rf fun wD hD=> .perm π hπ rf (.N5 m q d c F S Lu qb cy fY hq B7 N4 JB hS fk lM hFq qV (h wD hD).1 (h wD hD).2)
theorem B8 {s:TypeId} {fs:Array Field} {fd:Field} {j size o o' b:Nat} {zv:Value} {bytes:Nat} {x:Operand} {dst:Option Tmp} {ty:TypeId} {pos:String} {af:Array Edge} {gd:Option (Nat×Bool)} (hu:P.underlying s=some (.struct fs)) (Pd:fs[j]? =some fd) (ho:o+fd.offset=o') (hi:TI P fd.type zv size bytes) (hs:size≠0)
  {ρ:Operand→Value} (hx:ρ x= .pointer (some ⟨b,o,none⟩)) (w:World):(execOp ρ {dst,op:= .fieldAddr s x j,type:=ty,pos,after:=af,guard:=gd}).run P w= .ok (.value (.pointer (some ⟨b,o',none⟩))) w:=by
 simp only[execOp,hx];simp[Instr.fieldAt,run_underlying hu,Pd,Instr.sureAddr,fieldPlace,hi.sizeOf,hs,←ho,Addr.add_mid]
end
end Go.K
namespace Go.K
open Go.Proofs
set_option maxRecDepth 10000
def kG:Int→List En→Int
 |last,[]=>last
 |_,e::L=>kG e.2 L
def B9:Int→List En→Bool
 |_,[]=>true
 |last,e::L=>decide (lG last e=0)&&B9 e.2 L
theorem Hz:∀{L:List En} {last:Int} {i:Nat} {e:En},B9 last L=true→L[i]? =some e→lG (kG last (L.take i)) e=0∧kG last (L.take (i+1))=e.2
 |[],_,_,_,_,h=>by simp at h
 |x::L,last,0,e,h,hi=>by
  simp only[B9,bD,decide_eq_true_eq]at h;simp at hi;subst hi;exact⟨by simpa[kG]using h.1,by simp[kG]⟩
 |x::L,last,i+1,e,h,hi=>by
  simp only[B9,bD,decide_eq_true_eq]at h;have:=Hz h.2 (by simpa using hi);simpa[kG]using this
theorem wV {last:Int} {e:En} (h:lG last e=0):ja e.1∧last<e.2:=by
 unfold lG at h
 split at h
 ·rename_i h1;exact absurd h h1
 ·rename_i h1
  split at h
  ·cases h
  ·exact⟨C0 (by simpa using h1),by omega⟩
theorem ud:∀{L:List En} {last:Int},B9 last L=true→∀e∈L,ja e.1
 |[],_,_,e,h=>by cases h
 |x::L,last,h,e,he=>by
  simp only[B9,bD,decide_eq_true_eq]at h;rcases cW.1 he with rfl|he
  ·exact(wV h.1).1
  ·exact ud h.2 e he
theorem wW:∀{L:List En} {last:Int},B9 last L=true→eI last (L.map (·.2))=true
 |[],_,_=>rfl
 |x::L,last,h=>by
  simp only[B9,bD,decide_eq_true_eq]at h;simp only[eL,eI,bD,decide_eq_true_eq];exact⟨(wV h.1).2,wW h.2⟩
def jt (L:List En):Pa:=(L.map (·.1.1),L.map (·.2),keysOf L,(keysOf L).map (pk L))
theorem El {x:List Po} (h:x≠[]):∃p∈x,Ar x=p.1:=by
 unfold Ar
 cases hl:x.getLast? with
 |none=>exact absurd (List.getLast?_eq_none_iff.1 hl) h
 |some p=>exact⟨p,List.mem_of_getLast? hl,rfl⟩
theorem N6 {L:List En} (h:B9 (-1) L=true) (hn:L.length≤1000000):ux (jt L)=true:=by
 have hF:=ud h;have h1:(keysOf L).map (pk L)=(jt L).2.2.2:=rfl;unfold ux;have e1:decide ((jt L).1.length=(jt L).2.1.length)=true:=by simp[jt]
 have e2:eI (-1) (jt L).2.1=true:=wW h;have e3:decide ((jt L).2.2.1.length=(jt L).2.2.2.length)=true:=by simp[jt]
 have e4:Ai none (jt L).2.2.1=true:=ND (pR L)
 have e5:(jt L).2.2.2.all (fun x=> !kU ((jt L).1.length:Int) x)=true:=by
  refine dR.2 fun x hx=> ?_
  rw[←h1]at hx;obtain⟨k,hk,rfl⟩:=cx.1 hx;have eD:pk L k≠[]:=GG 0 (lE.1 hk)
  have Yt:(pk L k).isEmpty=false:=by
   cases h:pk L k with
   |nil=>exact absurd h eD
   |cons a b=>rfl
  have tZ:dY (-1) (pk L k)=true:=yd k L 0 (-1) hF (by omega) (by omega);obtain⟨p,hp,hl⟩:=El eD;have:=(tQ k L 0 hF).2 p hp;have hlen:((jt L).1.length:Int)=L.length:=by simp[jt]
  simp only[kU,tZ,Yt,hlen,hl];rw[decide_eq_false (by omega)];rfl
 rw[e1,e2,e3,e4,e5];rfl
theorem JC {L:List En} (hF:∀e∈L,ja e.1) (hn:L.length≤1000000) (k:List UInt8):Room (pk L k):=by
 have h1:=tQ k L 0 hF;have tZ:dY (-1) (pk L k)=true:=yd k L 0 (-1) hF (by omega) (by omega);have iK:∀p∈pk L k,p.2.length≤500:=fun p hp=>(h1.2 p hp).2.2
 obtain⟨h2,h3⟩:=wM (pk L k) (-1) 500 (by omega) tZ iK (by omega);have hl:(pk L k).length≤L.length:=h1.1;exact⟨fun p hp=>by have:=iK p hp;omega,by omega,by omega,by omega⟩
theorem JD {L:List En} (hF:∀e∈L,ja e.1) (hn:L.length≤1000000):Ht (jt L):=by
 have hk:(keysOf L).length≤500000000:=by
  have h1:=(pR L).nodup.length_le_of_subset (l₂:=ik L) (fun x hx=>lE.1 hx);have:=qH hF;omega
 refine⟨by simp[jt];omega,by simp[jt];omega,by simp only[jt];omega,by simp[jt];omega,fun x hx=>?_⟩;obtain⟨k,_,rfl⟩:=cx.1 hx;exact JC hF hn k
theorem N7 {M:aD} {w:World} {e:En} {v:Value} (h:RT.en.V M w e v):(-9223372036854775808≤e.1.1∧e.1.1≤9223372036854775807)∧ -9223372036854775808≤e.2∧e.2≤9223372036854775807:=by
 obtain⟨vs,⟨va,vb,_,⟨vc,vd,_,⟨_,h1⟩,_⟩,⟨_,h2⟩⟩,_⟩:=h;exact⟨h1,h2⟩
def ZP (B b:Nat) (vi vs:Value):aD:=fun k=>B≤k∧k≠b∧vi.ownBlock≠some k∧vs.ownBlock≠some k
theorem Own.KU {κ:IntKind} {e:TypeId} {M M' N:aD} {w w':World} {base:Nat} {v:Value} {xs:List Int} (h:Own (RT.int κ) e (jo v) w base v xs) (s:Step M w M' w' N) (hn:∀c,v.ownBlock=some c→¬N c):Own (RT.int κ) e (jo v) w' base v xs:=
 ((h.Fj (M':=allM) (fun _ _=>trivial)).vV s.all hn).lone
theorem Step.Yu {M M' N:aD} {w w':World} (s:Step M w M' w' N) {v:Value} (hv:∀b,v.ownBlock=some b→b<w'.heap.size∧(w.heap.size≤b∨M' b)):Step M w (jQ M' v) w' N:=
 ⟨fun h k hk=>hk.elim (fun h1=>(hv k h1).1) (fun h1=>s.lt h k h1),s.os,s.tape,s.output,s.size,fun k hk=>⟨fun h=>by
  rcases h with h|h
  ·rcases(hv k h).2 with h1|h1
   ·omega
   ·exact(s.mem k hk).1 h1
  ·exact(s.mem k hk).1 h,fun h=> .inr ((s.mem k hk).2 h)⟩,s.same,s.sub⟩
end Go.K
namespace Go.K
open Go.Proofs
namespace TKSegA
theorem Yv:Enters Tryz.prog 104:=enters Tryz.func104 rfl (by decide)
end TKSegA
open TKSegA
set_option maxRecDepth 10000
def Av (xs:List Int) (i:Int):Int:=if 0≤i∧i<xs.length then xs.getD i.toNat 0 else-1
theorem JE {M:aD} {xs:List Int} {v0:Value} {i:Int} (w0:World) (hv:((RT.int .i64).sl).V M w0 xs v0):
  Spec Tryz.prog 104 #[v0,.int .i64 i] w0 (fun v w=>v= .int .i64 (Av xs i)∧w=w0):=by
 have hlen:=eR hv;refine aR (args:=[_,_]) (fn:=Tryz.f104) Tryz.func104 rfl (n:=17) Tryz.ntmps104 (ai (ad (ah rfl rfl (ab (ai (ai (ad (ae rfl rfl (bY rfl rfl rfl (ae rfl rfl ?_))))))))));refine aL (g:=7) rfl (fun fu=>?_) (fun fu=>?_)
 ·refine ao rfl rfl rfl rfl (ao rfl rfl rfl rfl (ao rfl rfl rfl rfl (ao rfl rfl rfl rfl (aP rfl rfl rfl (ab (kY rfl (ai (ad (ah rfl rfl (ab (aI ?_)))))))))));have e:Av xs i= -1:=by unfold Av;rw[if_neg (by omega)]
  exact aO rfl rfl ⟨by rw[e],rfl⟩
 ·refine ak rfl rfl (ae rfl rfl (ak rfl rfl (ae rfl rfl (ak rfl rfl (bM ar rfl hv rfl (ak rfl rfl (dh rfl rfl rfl (av rfl rfl rfl (ab ?_)))))))));refine bK rfl (fun c1=>?_) (fun c1=>?_)
  ·refine ai (ad (ah rfl rfl (ab (aI ?_))));have e:Av xs i= -1:=by unfold Av;rw[if_neg (by omega)]
   exact aO rfl rfl ⟨by rw[e],rfl⟩
  ·refine aT (ai (ad (ae rfl rfl (ae rfl rfl ?_))));refine dq (M:=M) ar I3 rfl rfl rfl hv (aq _ _) (by omega) (fun u x hg hu=>?_);refine cn (M:=M) an rfl rfl hu (aq _ _) (fun l2=>?_);refine ah rfl rfl (ab (aI ?_));have e:Av xs i=x:=by unfold Av;rw[if_pos (by omega),bH,hg];rfl
   exact aO rfl rfl ⟨by rw[e],rfl⟩
theorem wY {M:aD} {s:Se} {v0:Value} (w0:World) (hs:cf RT.se M w0 v0 s):
  Spec Tryz.prog 34 #[v0] w0 (fun v w=>v= .int .i64 (s.1.length:Int)∧w=w0):=by
 refine aR (args:=[_]) (fn:=Tryz.f34) Tryz.func34 rfl (n:=8) Tryz.ntmps34 (ai (ad (ah rfl rfl (ab (ai (ad (ae rfl rfl (aC rfl hs.jB rfl ?_))))))));refine aM (M:=M) (A:=RT.se) (B:=(RT.int .i64).sl) Tryz.underlying141 rfl rfl lI (by decide) se0 rfl rfl (by decide) hs (aq _ _) (fun Jf tS=>?_);refine bZ (M:=M) ar rfl rfl rfl rfl rfl tS (aq _ _) (fun JF ru=>?_);replace ru:((RT.int .i64).sl).V M _ s.1 JF:=ru;refine bM ar rfl ru rfl (ah rfl rfl (ab (aI ?_)));exact aO rfl rfl ⟨rfl,rfl⟩
theorem wZ {M:aD} {s:Se} {i:Int} {v0:Value} (w0:World) (hs:cf RT.se M w0 v0 s):
  Spec Tryz.prog 58 #[v0,.int .i64 i] w0 (fun v w=>v= .int .i64 (Av s.2.1 i)∧w=w0):=by
 refine aR (args:=[_,_]) (fn:=Tryz.f58) Tryz.func58 rfl (n:=11) Tryz.ntmps58 (ai (ad (ah rfl rfl (ab (ai (ad (ae rfl rfl (aC rfl hs.jB rfl ?_))))))));refine aM (M:=M) (A:=RT.se) (B:=(RT.int .i64).sl) Tryz.underlying141 rfl rfl lI (by decide) se1 rfl rfl (by decide) hs (aq _ _) (fun Jf tS=>?_);refine bZ (M:=M) ar rfl rfl rfl rfl rfl tS (aq _ _) (fun JF ru=>?_);replace ru:((RT.int .i64).sl).V M _ s.2.1 JF:=ru;refine ae rfl rfl ?_;refine aJ rfl rfl Yv (JE _ ru) (fun r wc hc=>?_);obtain⟨rfl,rfl⟩:=hc;refine ah rfl rfl (ab (aI ?_));exact aO rfl rfl ⟨rfl,rfl⟩
theorem ue {α:Type} {p:α→Bool}:∀{xs:List α} {i:Nat},i≤xs.length→(∀(k:Nat) x,k<i→xs[k]? =some x→p x=true)→(∀(k:Nat) x,i≤k→xs[k]? =some x→p x=false)→xs.countP p=i
 |[],i,hi,_,_=>by simp at hi;simp[hi]
 |x::xs,0,_,_,h2=>by
  rw[List.countP_eq_zero.2];intro a ha;obtain⟨k,hk⟩:=bR.1 ha;simp[h2 k a (bG _) hk]
 |x::xs,i+1,hi,h1,h2=>by
  rw[List.countP_cons_of_pos (h1 0 x (by omega) rfl),ue (by simpa using hi) (fun k y hk hy=>h1 (k+1) y (by omega) (by simpa using hy)) (fun k y hk hy=>h2 (k+1) y (by omega) (by simpa using hy))]
end Go.K

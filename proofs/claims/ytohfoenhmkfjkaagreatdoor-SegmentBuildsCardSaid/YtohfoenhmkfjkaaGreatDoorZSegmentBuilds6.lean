/- What the law 'SegmentBuilds' needs of walks and plain Lean, part 6: nothing is assumed beyond the texts that it imports. -/
import Derived.KernelRfl
import Derived.Test.YtohfoenhmkfjkaaGreatDoorProg
import Derived.Test.YtohfoenhmkfjkaaGreatDoorZSegmentBuilds1
import Derived.Test.YtohfoenhmkfjkaaGreatDoorZSegmentBuilds2
import Derived.Test.YtohfoenhmkfjkaaGreatDoorZSegmentBuilds3
import Derived.Test.YtohfoenhmkfjkaaGreatDoorZSegmentBuilds4
import Derived.Test.YtohfoenhmkfjkaaGreatDoorZSegmentBuilds5
set_option linter.unusedVariables false
set_option linter.unusedSimpArgs false
namespace Go.K
open Go.Proofs
namespace TKSegQ
theorem qA:TI Tryz.prog 56 (.slice none 0 0) 1 24:=by unfold TI;kernel_rfl
theorem FI:TI Tryz.prog 62 (.agg #[(.slice none 0 0),(.slice none 0 0),(.slice none 0 0),(.slice none 0 0)]) 4 96:=by unfold TI;kernel_rfl
theorem gz:TI Tryz.prog 107 (.slice none 0 0) 1 24:=by unfold TI;kernel_rfl
theorem tZ:TI Tryz.prog 123 (.pointer none) 1 8:=by unfold TI;kernel_rfl
theorem B62:placesOf Tryz.prog 62=[(0,1),(1,1),(2,1),(3,1)].map some:=by kernel_rfl
theorem UL:Enters Tryz.prog 73:=enters Tryz.func73 rfl (by decide)
theorem E79:Enters Tryz.prog 79:=enters Tryz.func79 rfl (by decide)
end TKSegQ
open TKSegQ
set_option maxRecDepth 10000
theorem wO {M:aL} {t:Fd} (w0:World) (hM:Lt M w0) (h1:t.1.length≤140737488355328) (h2:t.2.length≤140737488355328):
  Spec Tryz.prog 94 #[kv t] w0 (fun v w=>v= .string ⟨(dm t).toArray⟩∧Step M w0 M w aE):=by
 refine bu (args:=[_]) (fn:=Tryz.f94) Tryz.func94 rfl (n:=9) Tryz.ntmps94 ?_;have S:Step M w0 M w0 aE:=(ar _ _).cw (fun _ h=>h.elim) (fun _ h=>h.elim);refine al (aj ?_);refine iw (A:=RT.fd) rfl rfl hM (tW (by omega) (by omega)) rfl (fun u0 w1 cV s0 _=>?_);replace hM:=s0.lt hM;have:=S.size;replace S:=S.aB s0;refine ak rfl rfl (ae (al (aj ?_)));refine ay (M:=M) (A:=RT.fd) (B:=RT.str) bw rfl rfl I9 (by decide) (E2) rfl rfl (by decide) (by assumption) (by repeat (first|exact ao _ _|refine aU (br (by assumption)) ?_)) (fun tU jw=>?_);refine bg (M:=M) aD rfl rfl rfl rfl rfl jw (ao _ _) (fun v1 tu=>?_);obtain rfl:=dP tu;refine Rg.cat (p:=t.1) (q:=[0]) rfl rfl rfl (by simp;omega) ?_;refine ay (M:=M) (A:=RT.fd) (B:=RT.str) bw rfl rfl I9 (by decide) (Md) rfl rfl (by decide) (by assumption) (by repeat (first|exact ao _ _|refine aU (br (by assumption)) ?_)) (fun EZ iC=>?_);refine bg (M:=M) aD rfl rfl rfl rfl rfl iC (ao _ _) (fun v4 nX=>?_);obtain rfl:=dP nX;refine Rg.cat (p:=t.1++[0]) (q:=t.2) rfl rfl rfl (by simp;omega) (ak rfl rfl (ae (aQ ?_)));exact aV rfl rfl ⟨rfl,S⟩
theorem wR {M:aL} {s:Se} {ls:List (List Po)} {k:List UInt8} {v0:Value} (w0:World) (hM:Lt M w0) (hs:cc RT.se M w0 v0 s) (mW:xa s.2.2.1) (ok:LC s ls):
  Spec Tryz.prog 92 #[v0,sv k] w0 (fun v w=>(RT.po.sl).V M w (ua s.2.2.1 ls k) v∧Step M w0 M w aE):=by
 refine bu (args:=[_,_]) (fn:=Tryz.f92) Tryz.func92 rfl (n:=20) Tryz.ntmps92 ?_;have S:Step M w0 M w0 aE:=(ar _ _).cw (fun _ h=>h.elim) (fun _ h=>h.elim);refine al (aj (ak rfl rfl (ae (al (aj (ah rfl rfl (bm rfl hs.fk rfl ?_)))))));refine ay (M:=M) (A:=RT.se) (B:=(RT.di).ptr) eH rfl rfl tZ (by decide) O1 rfl rfl (by decide) hs (ao _ _) (fun AF l6=>?_);refine bg (M:=M) eo rfl rfl rfl rfl rfl l6 (ao _ _) (fun vd I0=>?_);refine ah rfl rfl ?_;refine aP rfl rfl UL (find_spec (k:=k) _ hM (oY.1 I0) mW (by rw[ok.hls,cj];exact ok.hdl)) (fun r6 w6 hc=>?_);obtain⟨s6,hr⟩:=hc
 obtain⟨p,rfl,hF⟩:∃p,r6= .tuple #[p,.bool (decide (k∈s.2.2.1))]∧mf s.2.2 k M p w6:=by
  rcases hr with⟨j,p,tl,rfl,h3,h4,h5⟩|⟨rfl,h3⟩
  ·exact⟨p,by rw[decide_eq_true (aG h3)],.inl ⟨j,tl,h3,h4,h5⟩⟩
  ·exact⟨_,by rw[decide_eq_false h3],.inr ⟨rfl,h3⟩⟩
 replace hM:=s6.lt hM;have:=S.size;replace S:=S.aB s6;refine ah rfl rfl (bZ rfl rfl rfl (bZ rfl rfl rfl (ak rfl rfl (ak rfl rfl (ae (al (al (aj (ah rfl rfl (jN rfl rfl (bO (v':= .bool (decide (k∉s.2.2.1))) (by simp) ?_)))))))))));refine ae ?_;refine bQ rfl (fun c2=>?_) (fun c2=>?_)
 ·refine al (aj (ak rfl rfl (ae (aQ ?_))));exact aV rfl rfl ⟨by rw[o2 c2];exact iO,S⟩
 ·refine aZ (al (aj (ah rfl rfl ?_)));obtain⟨j,tl,JH,tp,DM⟩:=hF.resolve_right (fun h=>h.2 (cU.1 c2));rw[ok.hls,ff]at tp;obtain⟨l,JZ,rfl⟩:=iv.1 tp;obtain⟨iV,VH,Xa,Xb⟩:=ok.hok l (aG JZ);refine aP rfl rfl E79 (BO hM DM iV VH Xa Xb) (fun r4 w4 hc=>?_);obtain⟨hr4,s4⟩:=hc;replace hM:=s4.lt hM;have:=S.size;replace S:=S.aB s4;refine ak rfl rfl (ae (aQ ?_));exact aV rfl rfl ⟨by rw[sY mW.nodup JH JZ];exact hr4,S⟩
theorem B9 {M:aL} {p:Pa} {k:List UInt8} {v0:Value} (w0:World) (hM:Lt M w0) (hp:RT.pa.V M w0 p v0) (mW:xa p.2.2.1) (hl:p.2.2.1.length=p.2.2.2.length):
  Spec Tryz.prog 93 #[v0,sv k] w0 (fun v w=>(RT.po.sl).V M w (ua p.2.2.1 p.2.2.2 k) v∧Step M w0 M w aE):=by
 have gB:=hM;refine bu (args:=[_,_]) (fn:=Tryz.f93) Tryz.func93 rfl (n:=25) Tryz.ntmps93 ?_;have S:Step M w0 M w0 aE:=(ar _ _).cw (fun _ h=>h.elim) (fun _ h=>h.elim);refine al (aj ?_);refine iw (A:=RT.pa) (a:=p) rfl rfl hM hp rfl (fun u2 wb0 jP zY _=>?_);replace hp:=hp.le zY.le;replace hM:=zY.lt hM;have:=S.size;replace S:=S.aB zY;refine ak rfl rfl (ae (al (al (aj (ak rfl rfl (ae (bh ?_)))))));refine dz (σ:=Nat) (fun i=>[(1,sv k),(2,u2),(5,.int .i64 (i:Int))]) (fun i w=>Step M w0 M w aE∧cc RT.pa M w u2 p∧i≤p.2.2.1.length∧∀(j:Nat) x,j<i→p.2.2.1[j]? =some x→x≠k) (fun i=>p.2.2.1.length-i) 0 (.cons rfl (.cons rfl (.cons rfl .nil))) ?_ ?_
 ·exact⟨S,jP,bH _,fun j x h=>absurd h (jn _)⟩
 ·clear S jP hM;rintro i w ⟨S,jP,hi,jQ⟩;have hM:=S.lt gB;refine al (al (aj (ah rfl rfl ?_)));refine ay (M:=M) (A:=RT.pa) (B:=(RT.str.sl)) bC rfl rfl tR (by decide) Mu rfl rfl (by decide) jP (ao _ _) (fun u21 Jf=>?_);refine bg (M:=M) aF rfl rfl rfl rfl rfl Jf (ao _ _) (fun v22 FC=>?_);have Xz:=dK FC;refine bK aF rfl FC rfl (cz rfl rfl rfl (ae ?_));refine bQ rfl (fun c2=>?_) (fun c2=>?_)
  ·refine aZ (al (bh (al (aj ?_))));obtain⟨x,iH⟩:∃x,p.2.2.1[i]? =some x:=⟨_,av (by omega)⟩;refine ay (M:=M) (A:=RT.pa) (B:=(RT.str.sl)) bC rfl rfl tR (by decide) Mu rfl rfl (by decide) jP (ao _ _) (fun u40 P2=>?_);refine bg (M:=M) aF rfl rfl rfl rfl rfl P2 (ao _ _) (fun v41 P3=>?_);refine ah rfl rfl ?_;refine cu (M:=M) aF I9 rfl rfl rfl P3 (ao _ _) (by omega) (fun u43 x_ fU P4=>?_);rw[aC]at fU;obtain rfl:=aN (iH.symm.trans fU);refine bg (M:=M) aD rfl rfl rfl rfl rfl P4 (ao _ _) (fun v44 adv=>?_);obtain rfl:=dP adv;refine ah rfl rfl (Rg.qJ rfl rfl rfl (ae ?_));refine bQ rfl (fun c4=>?_) (fun c4=>?_)
   ·subst c4;refine al (aj ?_);refine ay (M:=M) (A:=RT.pa) (B:=(((RT.po).sl).sl)) bC rfl rfl qA (by decide) H4 rfl rfl (by decide) jP (ao _ _) (fun u50 P5=>?_);refine bg (M:=M) b9 rfl rfl rfl rfl rfl P5 (ao _ _) (fun v51 P7=>?_);refine ah rfl rfl ?_;obtain⟨l,Dv⟩:∃x,p.2.2.2[i]? =some x:=⟨_,av (by omega)⟩;refine cu (M:=M) b9 gz rfl rfl rfl P7 (ao _ _) (by omega) (fun Vd x_ fU uc=>?_);rw[aC]at fU;obtain rfl:=aN (Dv.symm.trans fU);refine bg (M:=M) aK rfl rfl rfl rfl rfl uc (ao _ _) (fun v54 Dn=>?_);refine ak rfl rfl (ae (aQ ?_));exact aV rfl rfl ⟨by rw[sY mW.nodup iH Dv];exact Dn,S⟩
   ·refine aZ (aj (ah rfl rfl (bI rfl rfl rfl (by omega) (ak rfl rfl (ae ?_)))));refine⟨rfl,i+1,(.cons rfl (.cons rfl (.cons rfl .nil))),?_,?_⟩
    ·exact⟨S,jP,by omega,fun j y hj hy=>by
      rcases db j i with h|h
      ·exact jQ j y h hy
      ·rw[show j=i by omega,iH]at hy;cases hy;exact c4⟩
    ·omega
  ·refine cY (al (aj (ak rfl rfl (ae (aQ ?_)))));exact aV rfl rfl ⟨by rw[o2 (fun hm=>by obtain⟨j,hj⟩:=bN.1 hm;exact jQ j k (by have:=(aw.1 hj).1;omega) hj rfl)];exact iO,S⟩
theorem FJ {M:aL} {p:Pa} {v0:Value} (w0:World) (hM:Lt M w0) (hp:RT.pa.V M w0 p v0):
  Spec Tryz.prog 90 #[v0] w0 (fun v w=>RT.pa.V M w p v∧Step M w0 M w aE):=by
 have gB:=hM;refine bu (args:=[_]) (fn:=Tryz.f90) Tryz.func90 rfl (n:=12) Tryz.ntmps90 ?_;have S:Step M w0 M w0 aE:=(ar _ _).cw (fun _ h=>h.elim) (fun _ h=>h.elim);refine al (aj ?_);refine iw (A:=RT.pa) (a:=p) rfl rfl hM hp rfl (fun u1 wb0 kq zY _=>?_);replace hp:=hp.le zY.le;replace hM:=zY.lt hM;have:=S.size;replace S:=S.aB zY;refine eG M FI rfl (fun lJ zj KF KG eX kx=>?_);obtain⟨ef,jM⟩:∃M',M'=ins M lJ:=⟨_,rfl⟩;rw[←jM]at kx;have ep:ef lJ:=by rw[jM];exact .inl rfl
 change zj.heap[lJ]? =some (.cells #[.slice none 0 0,.slice none 0 0,.slice none 0 0,.slice none 0 0] _ _)at eX;replace kq:=kq.le (by decide) kx.le;replace hM:=kx.lt hM;have:=S.size;replace S:=S.aB kx;refine ae (al (aj ?_));refine ay (M:=ef) (A:=RT.pa) (B:=((RT.int .i64).sl)) cd rfl rfl jR (by decide) KS rfl rfl (by decide) kq (ao _ _) (fun QQ E6=>?_);refine bg (M:=ef) ax rfl rfl rfl rfl rfl E6 (ao _ _) (fun v10 tY=>?_);refine ay (M:=ef) (A:=RT.pa) (B:=((RT.int .i64).sl)) cd rfl rfl jR (by decide) O2 rfl rfl (by decide) kq (ao _ _) (fun u11 adw=>?_);refine bg (M:=ef) ax rfl rfl rfl rfl rfl adw (ao _ _) (fun v11 Cj=>?_);refine ay (M:=ef) (A:=RT.pa) (B:=(RT.str.sl)) cd rfl rfl tR (by decide) Mu rfl rfl (by decide) kq (ao _ _) (fun u12 Qm=>?_);refine bg (M:=ef) aF rfl rfl rfl rfl rfl Qm (ao _ _) (fun v12 FH=>?_);refine ay (M:=ef) (A:=RT.pa) (B:=(((RT.po).sl).sl)) cd rfl rfl qA (by decide) H4 rfl rfl (by decide) kq (ao _ _) (fun u13 adx=>?_);refine bg (M:=ef) b9 rfl rfl rfl rfl rfl adx (ao _ _) (fun JJ B6=>?_);refine eT (places:=[(0,1),(1,1),(2,1),(3,1)]) bC FI B62 rfl ⟨_,_,rfl,rfl,_,_,rfl,rfl,_,_,rfl,rfl,_,_,rfl,rfl,rfl⟩ (out:=[v10,v11,v12,JJ]) ⟨0,[_],rfl,fM tY,by simp[Value.cells],1,[_],rfl,fM Cj,by simp[Value.cells],2,[_],rfl,fM FH,by simp[Value.cells],3,[_],rfl,fM B6,by simp[Value.cells],rfl⟩ ?_;refine eD (M:=ef) (vs:=[v10,v11,v12,JJ]) FI rfl rfl (by intro u hu;simp at hu;rcases hu with rfl|rfl|rfl|rfl<;>exact jq (by assumption) rfl rfl) rfl rfl eX ep (fun wF gF sF=>?_);have:=an eX;replace ep:=(sF.mem _ this).2 ep;replace kq:=kq.le (by decide) sF.le;replace tY:=tY.le sF.le
 replace Cj:=Cj.le sF.le;replace FH:=FH.le sF.le;replace B6:=B6.le sF.le;replace hM:=sF.lt hM;have:=S.size;replace S:=S.trans sF (fun k hk h=>by have h:_=_:=h;subst h;first|(exfalso;omega)|(show _≤_;omega)|exact⟨by first|omega|assumption,(S.mem _ hk).1 ((sF.mem _ (an eX)).1 ep)⟩|exact .inl rfl|exact .inr rfl|exact .inr (.inl rfl)|exact .inr (.inr rfl)|exact rfl);have tC:=gF;clear eX;have eX:=tC;clear tC;refine ae (aQ ?_);have lc:=pD gB S;exact su (vs:=[v10,v11,v12,JJ]) rfl rfl bC rfl FI rfl eX ⟨KT (tY.le lc) (Cj.le lc) (FH.le lc) (B6.le lc),S.back⟩
end Go.K
namespace Go.K
open Go.Proofs
namespace TKLike
theorem qA:TI Tryz.prog 56 (.slice none 0 0) 1 24:=by unfold TI;kernel_rfl
theorem FI:TI Tryz.prog 62 (.agg #[(.slice none 0 0),(.slice none 0 0),(.slice none 0 0),(.slice none 0 0)]) 4 96:=by unfold TI;kernel_rfl
theorem gz:TI Tryz.prog 107 (.slice none 0 0) 1 24:=by unfold TI;kernel_rfl
theorem W3:Enters Tryz.prog 25:=enters Tryz.func25 rfl (by decide)
theorem E28:Enters Tryz.prog 28:=enters Tryz.func28 rfl (by decide)
theorem E30:Enters Tryz.prog 30:=enters Tryz.func30 rfl (by decide)
theorem E67:Enters Tryz.prog 67:=enters Tryz.func67 rfl (by decide)
theorem E68:Enters Tryz.prog 68:=enters Tryz.func68 rfl (by decide)
theorem E69:Enters Tryz.prog 69:=enters Tryz.func69 rfl (by decide)
theorem WZ:Enters Tryz.prog 70:=enters Tryz.func70 rfl (by decide)
theorem E84:Enters Tryz.prog 84:=enters Tryz.func84 rfl (by decide)
theorem W6:Enters Tryz.prog 85:=enters Tryz.func85 rfl (by decide)
theorem E90:Enters Tryz.prog 90:=enters Tryz.func90 rfl (by decide)
theorem E91:Enters Tryz.prog 91:=enters Tryz.func91 rfl (by decide)
theorem E92:Enters Tryz.prog 92:=enters Tryz.func92 rfl (by decide)
theorem E93:Enters Tryz.prog 93:=enters Tryz.func93 rfl (by decide)
theorem MZ:Enters Tryz.prog 94:=enters Tryz.func94 rfl (by decide)
theorem E95:Enters Tryz.prog 95:=enters Tryz.func95 rfl (by decide)
theorem E96:Enters Tryz.prog 96:=enters Tryz.func96 rfl (by decide)
theorem E97:Enters Tryz.prog 97:=enters Tryz.func97 rfl (by decide)
end TKLike
open TKLike
set_option maxRecDepth 10000
theorem uu {xs:List Int} {i:Int} {j:Nat} {x:Int} (h:xs[j]? =some x) (hi:i=j):Df xs i=x:=by
 subst hi;have hj:=(aw.1 h).1;unfold Df;rw[if_pos ⟨by omega,by omega⟩,aC,cZ,h];rfl
theorem uv {xs:List Int} {i:Int} (h: ¬(0≤i∧i<xs.length)):Df xs i= -1:=by unfold Df;rw[if_neg h]
set_option maxHeartbeats 4000000 in
theorem FK {M:aL} {s:Se} {ls:List (List Po)} {p:Pa} {t:Fd} {a:Addr} {v0 v1 v2:Value} (w0:World) (hM:Lt M w0) (JB:v0= .pointer (some a)) (hs:cc RT.se M w0 v0 s) (ok:LC s ls) (mW:xa s.2.2.1) (h12:s.1.length=s.2.1.length) (VT:kI ls≤4611686018427387904) (JT:∀l∈ls,(dA (-1) l).length≤35184372088832) (Nb:W0 (ua s.2.2.1 ls (dm t))) (J1:p=partsOf s ls) (hp:RT.pa.V M w0 p v1) (ht:RT.fd.V M w0 t v2) (h1:t.1.length≤140737488355328) (h2:t.2.length≤140737488355328):
  Spec Tryz.prog 42 #[v0,v1,v2] w0 (fun v w=>v= .bool true∧Step M w0 M w aE):=by
 have gB:=hM;have e0:p.1=s.1:=by rw[J1];rfl
 have e1:p.2.1=s.2.1:=by rw[J1];rfl
 have e2:p.2.2.1=s.2.2.1:=by rw[J1];rfl
 have e3:p.2.2.2=ls:=by rw[J1];rfl
 have el0:p.1.length=s.1.length:=by rw[e0]
 have el1:p.2.1.length=s.1.length:=by rw[e1,h12]
 have el2:p.2.2.1.length=ls.length:=by rw[e2];exact ok.hdl
 have el3:p.2.2.2.length=ls.length:=by rw[e3]
 have hn1:=ok.hn1;have hd6:=ok.hd6;have hdl:=ok.hdl;refine bu (args:=[_,_,_]) (fn:=Tryz.f42) Tryz.func42 rfl (n:=155) Tryz.ntmps42 ?_;have S:Step M w0 M w0 aE:=(ar _ _).cw (fun _ h=>h.elim) (fun _ h=>h.elim);refine al (aj ?_);refine iw (A:=RT.pa) (a:=p) rfl rfl hM hp rfl (fun u4 wb0 hY zY _=>?_);replace hs:=hs.le (by decide) zY.le;replace hp:=hp.le zY.le;replace ht:=ht.le zY.le;replace hM:=zY.lt hM;have:=S.size;replace S:=S.aB zY;refine iw (A:=RT.fd) (a:=t) rfl rfl hM ht rfl (fun u5 wb1 gU Du _=>?_);replace hs:=hs.le (by decide) Du.le;replace ht:=ht.le Du.le;replace hY:=hY.le (by decide) Du.le;replace hM:=Du.lt hM;have:=S.size;replace S:=S.aB Du;refine ak rfl rfl (ae (al (al (aj (ah rfl rfl (bO (v':= .pointer (some a)) (by rw[JB]) (Rg.xW Tryz.underlying25 rfl rfl rfl (ae (T.zZ rfl ((by simp)) (aZ (al ?_)))))))))));refine al ?_;have VU:=hM;by_cases xm: ¬((s.1.length:Int)=(p.1.length:Int))
 ·exact absurd (by rw[el0]) xm
 ·by_cases Nc: ¬(s.2.2.1=p.2.2.1)
  ·exact absurd e2.symm Nc
  ·apply T.draw (M:=M) mixed [bW.eq _,bW.eq (.int .i64 (s.1.length:Int)),bW.ptr ((RT.int .i64).sl) p.1,bW.V ((RT.int .i64).sl) p.1,bW.eq (.int .i64 (p.1.length:Int)),bW.eq (.bool (decide (¬((s.1.length:Int)=(p.1.length:Int))))),bW.eq (.bool false),bW.eq _,bW.V (RT.str.sl) s.2.2.1,bW.ptr (RT.str.sl) p.2.2.1,bW.V (RT.str.sl) p.2.2.1,bW.eq (.bool (decide (s.2.2.1=p.2.2.1))),bW.eq (.bool (decide (¬(s.2.2.1=p.2.2.1)))),bW.eq (.bool (decide (¬(s.2.2.1=p.2.2.1)))),bW.eq (.bool false),bW.eq _,bW.V RT.pa (partsOf s ls),bW.V RT.pa (partsOf s ls),bW.V RT.pa p,bW.eq (.bool (Jq (partsOf s ls) p)),bW.eq (.bool false),bW.eq (.bool false)]
   ·rfl
   ·refine aH ?_ ?_
    ·intro wD E sD;refine ah rfl rfl ?_;exact ae ⟨rfl,rfl,_,rfl,rfl,ar _ _⟩
    refine aH ?_ ?_
    ·intro wD E sD;refine aA ?_;refine aP rfl rfl E67 (yp _ (hs.le (by decide) sD.le)) (fun r1 w1 h1=>?_);obtain⟨rfl,rfl⟩:=h1;exact ae ⟨rfl,rfl,_,rfl,rfl,ar _ _⟩
    refine aH ?_ ?_
    ·intro wD E sD;refine ay (M:=M) (A:=RT.pa) (B:=((RT.int .i64).sl)) bC rfl rfl jR (by decide) KS rfl rfl (by decide) hY sD.le (fun uf mw=>?_);exact ae ⟨rfl,rfl,_,rfl,mw,ar _ _⟩
    refine aH ?_ ?_
    ·intro wD E sD;intro v2 nq;refine bg (M:=M) ax rfl rfl rfl rfl rfl (show cc ((RT.int .i64).sl) M wD v2 p.1 from nq) (ao _ _) (fun va mM=>?_);exact ae ⟨rfl,rfl,_,rfl,mM,ar _ _⟩
    refine aH ?_ ?_
    ·intro wD E sD;intro v3 px;refine bK ax rfl (show((RT.int .i64).sl).V M wD p.1 v3 from px) rfl ?_;exact ae ⟨rfl,rfl,_,rfl,rfl,ar _ _⟩
    refine aH ?_ ?_
    ·intro wD E sD;refine aA (aA (eS rfl rfl rfl ?_));exact ae ⟨rfl,rfl,_,rfl,rfl,ar _ _⟩
    refine aH ?_ ?_
    ·intro wD E sD;refine aA (aA (ah rfl rfl ?_));refine ae ⟨rfl,rfl,_,rfl,?_,ar _ _⟩;exact congrArg Value.bool (decide_eq_false xm)
    refine aH ?_ ?_
    ·intro wD E sD;refine aA (aq rfl rfl (ah rfl rfl ?_));exact ae ⟨rfl,rfl,_,rfl,rfl,ar _ _⟩
    refine aH ?_ ?_
    ·intro wD E sD;refine aA (aA (aA (aq rfl rfl ?_)));refine aP rfl rfl E68 (wx (M:=M) _ (sD.lt VU) (by rw[ok.hls,cj];exact ok.hdl) ok.hd6 (hs.le (by decide) sD.le)) (fun r1 w1 h1=>?_);exact ae ⟨rfl,rfl,_,rfl,h1.1,h1.2⟩
    refine aH ?_ ?_
    ·intro wD E sD;refine aA (aq rfl rfl ?_);refine ay (M:=M) (A:=RT.pa) (B:=(RT.str.sl)) bC rfl rfl tR (by decide) Mu rfl rfl (by decide) hY sD.le (fun uf mw=>?_);exact ae ⟨rfl,rfl,_,rfl,mw,ar _ _⟩
    refine aH ?_ ?_
    ·intro wD E sD;intro v9 zV;refine aA (aq rfl rfl ?_);refine bg (M:=M) aF rfl rfl rfl rfl rfl (show cc (RT.str.sl) M wD v9 p.2.2.1 from zV) (ao _ _) (fun va mM=>?_);exact ae ⟨rfl,rfl,_,rfl,mM,ar _ _⟩
    refine aH ?_ ?_
    ·intro wD E sD;intro v8 rK;intro v10 tY;intro v8 rK;refine aA (aq rfl rfl ?_);refine aP rfl rfl E84 (wJ (M:=M) _ (sD.lt VU) (show(RT.str.sl).V M wD s.2.2.1 v8 from rK) (show(RT.str.sl).V M wD p.2.2.1 v10 from tY)) (fun r1 w1 h1=>?_);obtain⟨rfl,s1⟩:=h1;exact ae ⟨rfl,rfl,_,rfl,rfl,s1⟩
    refine aH ?_ ?_
    ·intro wD E sD;refine aA (aA (aq rfl rfl (jN rfl rfl (bO (v':= .bool (decide (¬(s.2.2.1=p.2.2.1)))) (by simp) ?_))));exact ae ⟨rfl,rfl,_,rfl,rfl,ar _ _⟩
    refine aH ?_ ?_
    ·intro wD E sD;refine aA (aA (aJ rfl rfl rfl ?_));exact ae ⟨rfl,rfl,_,rfl,rfl,ar _ _⟩
    refine aH ?_ ?_
    ·intro wD E sD;refine aA (aA (ah rfl rfl ?_));refine ae ⟨rfl,rfl,_,rfl,?_,ar _ _⟩;exact congrArg Value.bool (decide_eq_false Nc)
    refine aH ?_ ?_
    ·intro wD E sD;refine aA (aq rfl rfl (ah rfl rfl ?_));exact ae ⟨rfl,rfl,_,rfl,rfl,ar _ _⟩
    refine aH ?_ ?_
    ·intro wD E sD;refine aA (aA (aA (aq rfl rfl ?_)));refine aP rfl rfl E28 (B7 (M:=M) _ (sD.lt VU) (hs.le (by decide) sD.le) ok.hls ok.hdl ok.hn1 ok.hn2 ok.hd6 ok.hok) (fun r1 w1 h1=>?_);exact ae ⟨rfl,rfl,_,rfl,h1.1,h1.2⟩
    refine aH ?_ ?_
    ·intro wD E sD;intro Yq NM;intro Yq NM;refine aA (aq rfl rfl ?_);refine aP rfl rfl E90 (FJ (M:=M) (p:=partsOf s ls) _ (sD.lt VU) (show RT.pa.V M wD (partsOf s ls) Yq from NM)) (fun r1 w1 h1=>?_);exact ae ⟨rfl,rfl,_,rfl,h1.1,h1.2⟩
    refine aH ?_ ?_
    ·intro wD E sD;refine aA (aq rfl rfl ?_);refine ch (M:=M) (A:=RT.pa) bC rfl FI (by decide) rfl rfl rfl hY sD.le (fun va mM=>?_);exact ae ⟨rfl,rfl,_,rfl,mM,ar _ _⟩
    refine aH ?_ ?_
    ·intro wD E sD;intro v17 VV;intro v18 ady;intro v17 VV;refine aA (aq rfl rfl ?_);refine aP rfl rfl E30 (B5 (M:=M) (p:=partsOf s ls) (q:=p) _ (sD.lt VU) (show RT.pa.V M wD (partsOf s ls) v17 from VV) (show RT.pa.V M wD p v18 from ady)) (fun r1 w1 h1=>?_);obtain⟨rfl,s1⟩:=h1;exact ae ⟨rfl,rfl,_,rfl,rfl,s1⟩
    refine aH ?_ ?_
    ·intro wD E sD;refine aA (aA (aq rfl rfl (jN rfl rfl (bO (v':= .bool false) (by rw[J1,wL.2 rfl];rfl) ?_))));exact ae ⟨rfl,rfl,_,rfl,rfl,ar _ _⟩
    refine aH ?_ ?_
    ·intro wD E sD;refine aA (aA (aJ rfl rfl rfl ?_));exact ae ⟨rfl,rfl,_,rfl,rfl,ar _ _⟩
    exact rO
   ·intro QL na;refine aA (aA ?_);intro alx agG;intro N0 GR;refine aA (aA (aA (aA ?_)));intro aly agH;intro alz agI;intro agJ adz;refine aA (aA (aA (aA (aA ?_))));intro agK adA;intro agL adB;intro agM adC;refine aA (aA (aA ?_));have S:=S.aB na;have hM:=na.lt hM;replace hs:=hs.le (by decide) na.le;replace hY:=hY.le (by decide) na.le;replace gU:=gU.le (by decide) na.le;refine iY rfl (aZ (al (al (aj (ak rfl rfl (ae (bh ?_)))))));refine dz (σ:=Nat) (fun k=>[(0,v0),(4,u4),(5,u5),(7,.int .i64 ((k:Int)-1))]) (fun k w=>Step M w0 M w aE∧cc RT.se M w v0 s∧cc RT.pa M w u4 p∧cc RT.fd M w u5 t∧k≤s.1.length+2) (fun k=>s.1.length+2-k) 0 (.cons rfl (.cons rfl (.cons rfl (.cons rfl .nil)))) ?_ ?_
    ·exact⟨S,hs,hY,gU,bH _⟩
    ·clear S hs hY gU hM;rintro k w ⟨S,hs,hY,gU,hk⟩;have hM:=S.lt gB;refine al (al (aj (ah rfl rfl ?_)));refine ay (M:=M) (A:=RT.pa) (B:=((RT.int .i64).sl)) bC rfl rfl jR (by decide) KS rfl rfl (by decide) hY (ao _ _) (fun u61 adD=>?_);refine bg (M:=M) ax rfl rfl rfl rfl rfl adD (ao _ _) (fun v62 adE=>?_);refine bK ax rfl adE rfl (fq rfl rfl rfl (ae ?_));refine bQ rfl (fun c6=>?_) (fun c6=>?_)
     ·refine aZ (al (bh (al (aj (ak rfl rfl (ae (al (aj (ak rfl rfl (ae ?_))))))))));refine T.qY [(0,v0),(4,u4),(5,u5),(7,.int .i64 ((k:Int)-1)),(8,.int .i64 (Df s.1 ((k:Int)-1))),(9,.int .i64 (Df s.2.1 ((k:Int)-1)))] ?_ ?_
      ·refine T.qY [(0,v0),(4,u4),(5,u5),(7,.int .i64 ((k:Int)-1)),(8,.int .i64 (-1)),(9,.int .i64 (-1)),(54,.bool (decide (0≤(k:Int)-1∧(k:Int)-1<(p.1.length:Int))))] ?_ ?_
       ·refine aj (ah rfl rfl (ek rfl rfl rfl (ah rfl rfl ?_)));refine aR (g:=48) rfl (fun VW=>?_) (fun VW=>?_)
        ·refine aq rfl rfl (ah rfl rfl (aq rfl rfl ?_));refine ay (M:=M) (A:=RT.pa) (B:=((RT.int .i64).sl)) bC rfl rfl jR (by decide) KS rfl rfl (by decide) hY (ao _ _) (fun acV Jp=>?_);refine aq rfl rfl ?_;refine bg (M:=M) ax rfl rfl rfl rfl rfl Jp (ao _ _) (fun v105 VX=>?_);refine aq rfl rfl (bK ax rfl VX rfl (aq rfl rfl (cz rfl rfl rfl (aW rfl rfl rfl (ae ?_)))));exact⟨rfl,rfl,rfl,.cons rfl (.cons rfl (.cons rfl (.cons rfl (.cons rfl (.cons rfl (.cons (by first|rfl|exact congrArg (fun b=>some (Value.bool b)) (dL (decide_eq_false (by omega)))|exact congrArg (fun b=>some (Value.bool b)) (dL (decide_eq_true (by omega)))|exact congrArg (fun b=>some (Value.bool b)) (decide_eq_decide.2 (by omega))) (.nil)))))))⟩
        ·refine au rfl rfl rfl rfl (au rfl rfl rfl rfl (au rfl rfl rfl rfl (au rfl rfl rfl rfl (au rfl rfl rfl rfl (aJ rfl rfl rfl (ae ?_))))));exact⟨rfl,rfl,rfl,.cons rfl (.cons rfl (.cons rfl (.cons rfl (.cons rfl (.cons rfl (.cons (by first|rfl|exact congrArg (fun b=>some (Value.bool b)) (dL (decide_eq_false (by omega)))|exact congrArg (fun b=>some (Value.bool b)) (dL (decide_eq_true (by omega)))|exact congrArg (fun b=>some (Value.bool b)) (decide_eq_decide.2 (by omega))) (.nil)))))))⟩
       ·refine bQ rfl (fun Kv=>?_) (fun Kv=>?_)
        ·refine al (aj ?_);obtain⟨x,xo⟩:∃x,p.1[k-1]? =some x:=⟨_,av (by omega)⟩;obtain⟨y,xp⟩:∃y,p.2.1[k-1]? =some y:=⟨_,av (by omega)⟩;refine ay (M:=M) (A:=RT.pa) (B:=((RT.int .i64).sl)) bC rfl rfl jR (by decide) KS rfl rfl (by decide) hY (ao _ _) (fun alA VY=>?_);refine bg (M:=M) ax rfl rfl rfl rfl rfl VY (ao _ _) (fun alB VZ=>?_);refine ah rfl rfl ?_;refine cu (M:=M) ax I3 rfl rfl rfl VZ (ao _ _) (by omega) (fun alC x_ fU V0=>?_);rw[show((k:Int)-1).toNat=k-1 from by omega]at fU;obtain rfl:=aN (xo.symm.trans fU);refine cr (M:=M) az rfl rfl V0 (ao _ _) (fun V1=>?_);refine bO (v':= .int .i64 x) rfl (ak rfl rfl (ae (aj ?_)));refine ay (M:=M) (A:=RT.pa) (B:=((RT.int .i64).sl)) bC rfl rfl jR (by decide) O2 rfl rfl (by decide) hY (ao _ _) (fun alD V2=>?_);refine bg (M:=M) ax rfl rfl rfl rfl rfl V2 (ao _ _) (fun alE V3=>?_);refine ah rfl rfl ?_;refine cu (M:=M) ax I3 rfl rfl rfl V3 (ao _ _) (by omega) (fun alF x_ fU V4=>?_);rw[show((k:Int)-1).toNat=k-1 from by omega]at fU;obtain rfl:=aN (xp.symm.trans fU);refine cr (M:=M) az rfl rfl V4 (ao _ _) (fun V5=>?_);refine bO (v':= .int .i64 y) rfl (ak rfl rfl (ae ?_));exact⟨rfl,rfl,rfl,.cons rfl (.cons rfl (.cons rfl (.cons rfl (.cons (congrArg (fun z=>some (Value.int .i64 z)) (by first|(rw[←e0];exact(uu xo (by omega)).symm)|exact(uv (by omega)).symm)) (.cons (congrArg (fun z=>some (Value.int .i64 z)) (by first|(rw[←e1];exact(uu xp (by omega)).symm)|exact(uv (by omega)).symm)) (.nil))))))⟩
        ·refine aZ ?_;exact⟨rfl,rfl,rfl,.cons rfl (.cons rfl (.cons rfl (.cons rfl (.cons (congrArg (fun z=>some (Value.int .i64 z)) (by first|(rw[←e0];exact(uu xo (by omega)).symm)|exact(uv (by omega)).symm)) (.cons (congrArg (fun z=>some (Value.int .i64 z)) (by first|(rw[←e1];exact(uu xp (by omega)).symm)|exact(uv (by omega)).symm)) (.nil))))))⟩
      ·refine al (aj (ah rfl rfl (ah rfl rfl ?_)));refine aP rfl rfl E69 (BQ _ hs) (fun r wc hc=>?_);obtain⟨rfl,rfl⟩:=hc;refine ah rfl rfl (eS rfl rfl rfl (ah rfl rfl (Rg.Cb (g:=70) rfl ((fun h=>h rfl)) (aq rfl rfl (ah rfl rfl (aq rfl rfl (ah rfl rfl (aq rfl rfl ?_))))))));refine aP rfl rfl WZ (yq _ hs) (fun r wc hc=>?_);obtain⟨rfl,rfl⟩:=hc;refine aq rfl rfl (ah rfl rfl (aq rfl rfl (eS rfl rfl rfl (aJ rfl rfl rfl (ae (T.zZ rfl ((fun h=>h rfl)) (aZ (aj (ah rfl rfl (bI rfl rfl rfl (by omega) (ak rfl rfl ?_)))))))))));refine ae ?_;refine⟨rfl,k+1,(.cons rfl (.cons rfl (.cons rfl (.cons (congrArg (fun z=>some (Value.int .i64 z)) (by omega)) .nil)))),?_,?_⟩
       ·exact⟨S,hs,hY,gU,by omega⟩
       ·omega
     ·refine cY (al (aj (ak rfl rfl (ae (al (al (aj (ak rfl rfl (ae (bh ?_))))))))));refine dz (σ:=Nat) (fun j=>[(0,v0),(4,u4),(5,u5),(10,.int .i64 (kI (ls.take j))),(11,.int .i64 (j:Int))]) (fun j w=>Step M w0 M w aE∧cc RT.se M w v0 s∧cc RT.pa M w u4 p∧cc RT.fd M w u5 t∧j≤ls.length) (fun j=>ls.length-j) 0 (.cons rfl (.cons rfl (.cons rfl (.cons rfl (.cons rfl .nil))))) ?_ ?_
      ·exact⟨S,hs,hY,gU,bH _⟩
      ·clear S hs hY gU hM;rintro j w ⟨S,hs,hY,gU,hj⟩;have hM:=S.lt gB;refine al (al (aj (ah rfl rfl ?_)));refine ay (M:=M) (A:=RT.pa) (B:=(((RT.po).sl).sl)) bC rfl rfl qA (by decide) H4 rfl rfl (by decide) hY (ao _ _) (fun alG V6=>?_);refine bg (M:=M) b9 rfl rfl rfl rfl rfl V6 (ao _ _) (fun alH V7=>?_);refine bK b9 rfl V7 rfl (cz rfl rfl rfl (ae ?_));refine bQ rfl (fun c17=>?_) (fun c17=>?_)
       ·refine aZ (al (bh (al (aj ?_))));obtain⟨l,Dv⟩:∃x,ls[j]? =some x:=⟨_,av (by omega)⟩;have V8:p.2.2.2[j]? =some l:=by rw[e3];exact Dv
        obtain⟨kn,VQ⟩:∃x,p.2.2.1[j]? =some x:=⟨_,av (by omega)⟩;obtain⟨iV,VH,Xa,Xb⟩:=ok.hok l (aG Dv);have F9:=yA Dv;have Cc:=yB ls (j+1);have UU:=ur (ls.take j);refine ah rfl rfl ?_;refine ay (M:=M) (A:=RT.pa) (B:=(((RT.po).sl).sl)) bC rfl rfl qA (by decide) H4 rfl rfl (by decide) hY (ao _ _) (fun alJ V9=>?_);refine bg (M:=M) b9 rfl rfl rfl rfl rfl V9 (ao _ _) (fun alK Wa=>?_);refine ah rfl rfl ?_;refine cu (M:=M) b9 gz rfl rfl rfl Wa (ao _ _) (by omega) (fun alL x_ fU Wb=>?_);rw[aC]at fU;obtain rfl:=aN (V8.symm.trans fU);refine bg (M:=M) aK rfl rfl rfl rfl rfl Wb (ao _ _) (fun alM Wc=>?_);refine aP rfl rfl E91 (zA hM Wc iV VH (JT l (aG Dv))) (fun r19 w19 hc=>?_);obtain⟨Wd,adF⟩:=hc;replace hs:=hs.le (by decide) Wd.le;replace hY:=hY.le (by decide) Wd.le;replace gU:=gU.le (by decide) Wd.le;replace hM:=Wd.lt hM;have:=S.size;replace S:=S.aB Wd;refine bK bj rfl adF rfl (bI rfl rfl rfl (by omega) (ak rfl rfl (ae (al ?_))));apply T.xU [0,1,2,3,4,5,7,8,9,10,11,6,12,13] 11 [6,7,8,9,10] 1 aE mixed
        ·simp+decide only[uN,pI,fo,qg,im,iq,jW,dx,ia,kL,cond_true,cond_false,Nat.reduceBEq,Nat.reduceAdd,beq_self_eq_true];rfl
        ·rfl
        ·rfl
        ·rfl
        ·rfl
        ·rfl
        ·rfl
        intro adG adH;have Jv:=adH M;replace hs:=hs.le (by decide) Jv.le;replace hY:=hY.le (by decide) Jv.le;replace gU:=gU.le (by decide) Jv.le;replace hM:=Jv.lt hM;have:=S.size;replace S:=S.aB Jv;refine ah rfl rfl ?_;refine ae ⟨rfl,rfl,rfl,?_⟩;refine ay (M:=M) (A:=RT.pa) (B:=(RT.str.sl)) bC rfl rfl tR (by decide) Mu rfl rfl (by decide) hY (ao _ _) (fun alN We=>?_);refine ae ⟨rfl,rfl,rfl,?_⟩;refine bg (M:=M) aF rfl rfl rfl rfl rfl We (ao _ _) (fun alO Wf=>?_);refine ae ⟨rfl,rfl,rfl,?_⟩;refine ah rfl rfl ?_;refine ae ⟨rfl,rfl,rfl,?_⟩;refine cu (M:=M) aF I9 rfl rfl rfl Wf (ao _ _) (by omega) (fun alP x_ fU Wg=>?_);rw[aC]at fU;obtain rfl:=aN (VQ.symm.trans fU);refine ae ⟨rfl,rfl,rfl,?_⟩;refine bg (M:=M) aD rfl rfl rfl rfl rfl Wg (ao _ _) (fun alQ Wh=>?_);obtain rfl:=dP Wh;refine ae ⟨rfl,rfl,rfl,?_⟩;refine ay (M:=M) (A:=RT.pa) (B:=(((RT.po).sl).sl)) bC rfl rfl qA (by decide) H4 rfl rfl (by decide) hY (ao _ _) (fun alR Nd=>?_);refine ae ⟨rfl,rfl,rfl,?_⟩;refine bg (M:=M) b9 rfl rfl rfl rfl rfl Nd (ao _ _) (fun alS Wi=>?_);refine ae ⟨rfl,rfl,rfl,?_⟩;refine ah rfl rfl ?_;refine ae ⟨rfl,rfl,rfl,?_⟩;refine cu (M:=M) b9 gz rfl rfl rfl Wi (ao _ _) (by omega) (fun alT x_ fU Nf=>?_);rw[aC]at fU;obtain rfl:=aN (V8.symm.trans fU);refine ae ⟨rfl,rfl,rfl,?_⟩;refine bg (M:=M) aK rfl rfl rfl rfl rfl Nf (ao _ _) (fun agN wT=>?_);refine ae ⟨rfl,rfl,rfl,?_⟩;refine dU ?_;obtain⟨b7,o7,cs7,e7,f7,rfl,Qr,_⟩:=Nd.float;obtain⟨b8,o8,cs8,e8,f8,rfl,Qs,_⟩:=Nf.float;refine⟨ew ⟨fj bC rfl qA (by decide),⟨dC rfl Qr (fun h=>h),⟨eE,⟨bF.idx,⟨dC rfl Qs (fun h=>h),trivial⟩⟩⟩⟩⟩,?_⟩
        have kp:=eU aE adG;refine aP rfl rfl E92 (wR (k:=kn) _ hM hs mW ok) (fun r20 w20 hc=>?_);obtain⟨LD,Q7⟩:=hc;rw[sY mW.nodup (by rw[←e2];exact VQ) Dv]at LD;replace hs:=hs.le (by decide) Q7.le;replace hY:=hY.le (by decide) Q7.le;replace gU:=gU.le (by decide) Q7.le;replace wT:=wT.le Q7.le;replace hM:=Q7.lt hM;have:=S.size;replace S:=S.aB Q7;refine(fun(kp:dX _ _ _)=>ae ⟨rfl,rfl,fun _=>kp,?_⟩) (by first|exact kp|exact kp.mZ (by assumption)|exact kp.goN (by assumption)|exact kp.go (by assumption) (fun _ _ h=>by first|exact h|exact h.elim));refine aP rfl rfl W6 (qB hM LD wT) (fun alU alV hc=>?_);obtain⟨rfl,Dx⟩:=hc;refine bO (v':= .bool true) (by simp) ?_;replace hs:=hs.le (by decide) Dx.le;replace hY:=hY.le (by decide) Dx.le;replace gU:=gU.le (by decide) Dx.le;replace wT:=wT.le Dx.le;replace LD:=LD.le Dx.le;replace hM:=Dx.lt hM;have:=S.size;replace S:=S.aB Dx;refine ae ⟨rfl,rfl,fun h=>absurd rfl h,?_⟩;refine jN rfl rfl (bO (v':= .bool false) rfl ?_);refine ae ⟨rfl,rfl,fun h=>absurd rfl h,?_⟩;refine gY (iY rfl (aZ (aj (ah rfl rfl (bI rfl rfl rfl (by omega) (ak rfl rfl (ae ?_)))))));refine⟨rfl,j+1,(.cons rfl (.cons rfl (.cons rfl (.cons (congrArg (fun z=>some (Value.int .i64 z)) F9.symm) (.cons rfl .nil))))),?_,?_⟩
        ·exact⟨S,hs,hY,gU,by omega⟩
        ·omega
       ·refine cY (al ?_);have qG:ls.take j=ls:=a7 (by omega);rw[qG];apply qf 2 [0] 1 aE mixed rfl rfl rfl rfl;intro adI adJ;have Jw:=adJ M;replace hs:=hs.le (by decide) Jw.le;replace hY:=hY.le (by decide) Jw.le;replace gU:=gU.le (by decide) Jw.le;replace hM:=Jw.lt hM;have:=S.size;replace S:=S.aB Jw;refine ch (M:=M) (A:=RT.pa) bC rfl FI (by decide) rfl rfl rfl hY (ao _ _) (fun alW wU=>?_);refine ae ⟨rfl,rfl,rfl,?_⟩;refine ch (M:=M) (A:=RT.fd) bw rfl jr (by decide) rfl rfl rfl gU (ao _ _) (fun adK Wj=>?_);obtain rfl:adK=kv t:=gN Wj;refine ae ⟨rfl,rfl,rfl,?_⟩;refine dU ?_;obtain⟨b4,o4,cs4,e4,f4,hq4,Dy,_⟩:=hY.float;refine⟨ew ⟨dC (congrArg some hq4) Dy (fun h=>h),trivial⟩,?_⟩;have kp:=eU aE adI;refine aP rfl rfl MZ (wO (t:=t) _ hM h1 h2) (fun alY alZ hc=>?_);obtain⟨rfl,FL⟩:=hc;replace hs:=hs.le (by decide) FL.le;replace hY:=hY.le (by decide) FL.le;replace gU:=gU.le (by decide) FL.le;replace wU:=wU.le FL.le;replace hM:=FL.lt hM;have:=S.size;replace S:=S.aB FL;refine(fun(kp:dX _ _ _)=>ae ⟨rfl,rfl,fun _=>kp,?_⟩) (by first|exact kp|exact kp.mZ (by assumption)|exact kp.goN (by assumption)|exact kp.go (by assumption) (fun _ _ h=>by first|exact h|exact h.elim));refine aP rfl rfl E93 (B9 (p:=p) (k:=dm t) _ hM wU (by rw[e2];exact mW) (by rw[el2,el3])) (fun Tb w22 hc=>?_);obtain⟨ka,zW⟩:=hc;replace ka:(RT.po.sl).V M w22 (ua s.2.2.1 ls (dm t)) Tb:=by rw[←e2,←e3];exact ka
        replace hs:=hs.le (by decide) zW.le;replace hY:=hY.le (by decide) zW.le;replace gU:=gU.le (by decide) zW.le;replace wU:=wU.le zW.le;replace hM:=zW.lt hM;have:=S.size;replace S:=S.aB zW;refine ae ⟨rfl,rfl,fun h=>absurd rfl h,?_⟩;refine ak rfl rfl ?_;refine ae ⟨rfl,rfl,fun h=>absurd rfl h,?_⟩;refine gY (al (aj (ah rfl rfl ?_)));refine ch (M:=M) (A:=RT.fd) bw rfl jr (by decide) rfl rfl rfl gU (ao _ _) (fun adM Wk=>?_);obtain rfl:adM=kv t:=gN Wk;refine aP rfl rfl E95 (zE (t:=t) _ hM hs mW ok.hls ok.hdl (by omega) (by omega)) (fun r13 w23 hc=>?_);obtain⟨bc,rfl,hz,zz,hC⟩:=hc;have hz0:=S.size;generalize ins M bc=Mc at zz hC;replace hs:=hs.le (by decide) zz.le;replace hY:=hY.le (by decide) zz.le;replace gU:=gU.le (by decide) zz.le;replace wU:=wU.le zz.le;replace ka:=ka.le zz.le;replace hM:=zz.lt hM;have:=S.size;replace S:=S.aB zz;refine ak rfl rfl (ae (al (al (aj (ah rfl rfl (Rg.xW Tryz.underlying150 rfl rfl rfl (ae (T.zZ rfl ((by simp)) (aZ (al (al ?_)))))))))));refine aj (ak rfl rfl (ae (bh ?_)));refine dz (σ:=Nat) (fun i=>[(0,v0),(4,u4),(5,u5),(10,.int .i64 (kI ls)),(12,Tb),(13,.pointer (some ⟨bc,0,none⟩)),(14,.int .i64 (i:Int))]) (fun i w=>Lt Mc w∧Step M w0 Mc w aE∧cc RT.se Mc w v0 s∧cc RT.pa Mc w u4 p∧cc RT.fd Mc w u5 t∧(RT.po.sl).V Mc w (ua s.2.2.1 ls (dm t)) Tb∧Cu 216 (ua s.2.2.1 ls (dm t)) ((i:Int)-1) Mc w bc∧i≤(ua s.2.2.1 ls (dm t)).length) (fun i=>(ua s.2.2.1 ls (dm t)).length-i) 0 (.cons rfl (.cons rfl (.cons rfl (.cons rfl (.cons rfl (.cons rfl (.cons rfl .nil))))))) ?_ ?_
        ·exact⟨hM,S,hs,hY,gU,ka,hC,bH _⟩
        ·clear S hs hY gU hM ka hC;rintro i w ⟨hM,S,hs,hY,gU,ka,hC,hi⟩;have hAl:=dK ka;refine al (al (aj (ah rfl rfl (ah rfl rfl (bK aK rfl ka rfl (cz rfl rfl rfl (ae ?_)))))));refine bQ rfl (fun c27=>?_) (fun c27=>?_)
         ·refine aZ (al (bh (al ?_)));apply T.xU [0,2,3,4,5,6,1,7] 6 [1,2,3,4,5] 1 ((fun b=>b=bc)) mixed
          ·simp+decide only[uN,pI,fo,qg,im,iq,jW,dx,ia,kL,cond_true,cond_false,Nat.reduceBEq,Nat.reduceAdd,beq_self_eq_true];rfl
          ·rfl
          ·rfl
          ·rfl
          ·rfl
          ·rfl
          ·rfl
          intro adN adO;have Dz:=adO Mc;replace hs:=hs.le (by decide) Dz.le;replace hY:=hY.le (by decide) Dz.le;replace gU:=gU.le (by decide) Dz.le;replace ka:=ka.le Dz.le;replace hM:=Dz.lt hM;have:=S.size;replace S:=S.aB Dz;refine ah rfl rfl ?_;refine ae ⟨rfl,rfl,rfl,?_⟩;refine ah rfl rfl ?_;refine ae ⟨rfl,rfl,rfl,?_⟩;refine ah rfl rfl ?_;refine ae ⟨rfl,rfl,rfl,?_⟩;obtain⟨x,xo⟩:∃x,(ua s.2.2.1 ls (dm t))[i]? =some x:=⟨_,av (by omega)⟩;refine cu (M:=Mc) aK fv rfl rfl rfl ka (ao _ _) (by omega) (fun al1 x_ fU Wl=>?_);rw[aC]at fU;obtain rfl:=aN (xo.symm.trans fU);refine ae ⟨rfl,rfl,rfl,?_⟩;refine ay (M:=Mc) (A:=RT.po) (B:=RT.int .i64) bA rfl rfl I3 (by decide) Ao rfl rfl (by decide) Wl (ao _ _) (fun al2 Ng=>?_);refine ae ⟨rfl,rfl,rfl,?_⟩;refine cr (M:=Mc) az rfl rfl Ng (ao _ _) (fun Wm=>?_);refine bO (v':= .int .i64 x.1) rfl ?_;refine ae ⟨rfl,rfl,rfl,?_⟩;refine dU ?_;obtain⟨bb,oo,cs,ee,fr,rfl,ku,JA⟩:=Ng.float;refine⟨ew ⟨eE,⟨eE,⟨bF.idx,⟨fj bA rfl I3 (by decide),⟨dC rfl ku (fun(h:bb=bc)=>JA (h▸hC.mem)),trivial⟩⟩⟩⟩⟩,?_⟩;have kp:=eU ((fun b=>b=bc)) adN;replace hC:=hC.step Dz (fun h=>h);refine aP rfl rfl E96 (yt hC hM Nb.may Nb.ps Nb.by_ Nb.ln) (fun r29 w29 hc=>?_);obtain⟨rfl,Q8,hC⟩:=hc;have Oy:rB (ua s.2.2.1 ls (dm t)) ((i:Int)-1)=(i:Int):=by unfold rB;rw[if_pos (by omega)];omega
          rw[Oy]at hC ⊢;replace hs:=hs.le (by decide) Q8.le;replace hY:=hY.le (by decide) Q8.le;replace gU:=gU.le (by decide) Q8.le;replace ka:=ka.le Q8.le;replace S:=S.cW Q8 (fun b (hb:b=bc)=>by omega);replace hM:=Q8.lt hM;refine(fun(kp:dX _ _ _)=>ae ⟨rfl,rfl,fun _=>kp,?_⟩) (by first|exact kp|exact kp.mZ (by assumption)|exact kp.goN (by assumption)|exact kp.go (by assumption) (fun _ _ h=>by first|exact h|exact h.elim));refine eS rfl rfl rfl ?_;refine ae ⟨rfl,rfl,fun h=>absurd rfl h,?_⟩;refine gY (T.zZ rfl ((fun h=>h (j1 (d:=x.1) (ps:=x.2) xo))) (aZ (aj (ah rfl rfl (bI rfl rfl rfl (by omega) (ak rfl rfl (ae ?_)))))));refine⟨rfl,i+1,(.cons rfl (.cons rfl (.cons rfl (.cons rfl (.cons rfl (.cons rfl (.cons rfl .nil))))))),?_,?_⟩
          ·exact⟨hM,S,hs,hY,gU,ka,by rw[show((i+1:Nat):Int)-1=(i:Int)from by omega];exact hC,by omega⟩
          ·omega
         ·refine cY (al (aj (ah rfl rfl ?_)));refine aP rfl rfl E97 (B8 _ hM hs ok VT) (fun r31 w31 hc=>?_);obtain⟨rfl,Qt⟩:=hc;replace hC:=hC.step Qt (fun h=>h);replace hs:=hs.le (by decide) Qt.le;replace hY:=hY.le (by decide) Qt.le;replace gU:=gU.le (by decide) Qt.le;replace ka:=ka.le Qt.le;replace hM:=Qt.lt hM;have:=S.size;replace S:=S.aB Qt;refine ah rfl rfl (mB rfl rfl rfl (ah rfl rfl (Rg.pP (g:=134) rfl (rfl) (aq rfl rfl (ah rfl rfl (aq rfl rfl ?_))))));refine ch (M:=Mc) (A:=RT.fd) bw rfl jr (by decide) rfl rfl rfl gU (ao _ _) (fun adP Wn=>?_);obtain rfl:adP=kv t:=gN Wn;refine aq rfl rfl ?_;refine aP rfl rfl W3 (tJ (ls:=ls) (t:=t) _ hM hs mW ok.hls ok.hdl (by omega) (by omega)) (fun al3 al4 hc=>?_);obtain⟨rfl,DA⟩:=hc;replace hC:=hC.step DA (fun h=>h);replace hs:=hs.le (by decide) DA.le;replace hY:=hY.le (by decide) DA.le;replace gU:=gU.le (by decide) DA.le;replace ka:=ka.le DA.le;replace hM:=DA.lt hM;have:=S.size;replace S:=S.aB DA;refine aq rfl rfl (ah rfl rfl (aq rfl rfl (bK aK rfl ka rfl (aq rfl rfl (mB rfl rfl rfl (aW rfl rfl rfl (ah rfl rfl (Rg.pP (g:=142) rfl (rfl) (aq rfl rfl (ah rfl rfl (aq rfl rfl ?_)))))))))));refine ch (M:=Mc) (A:=RT.fd) bw rfl jr (by decide) rfl rfl rfl gU (ao _ _) (fun Wo Qu=>?_);obtain rfl:Wo=kv t:=gN Qu;refine aq rfl rfl ?_;refine aP rfl rfl MZ (wO (t:=t) _ hM h1 h2) (fun al5 al6 hc=>?_);obtain⟨rfl,DB⟩:=hc;replace hC:=hC.step DB (fun h=>h);replace hs:=hs.le (by decide) DB.le;replace hY:=hY.le (by decide) DB.le;replace gU:=gU.le (by decide) DB.le;replace ka:=ka.le DB.le;replace hM:=DB.lt hM;have:=S.size;replace S:=S.aB DB;refine aq rfl rfl ?_;refine aP rfl rfl E92 (wR (k:=dm t) _ hM hs mW ok) (fun agO agP hc=>?_)
          obtain⟨DC,wV⟩:=hc;replace hC:=hC.step wV (fun h=>h);replace hs:=hs.le (by decide) wV.le;replace hY:=hY.le (by decide) wV.le;replace gU:=gU.le (by decide) wV.le;replace ka:=ka.le wV.le;replace hM:=wV.lt hM;have:=S.size;replace S:=S.aB wV;refine aq rfl rfl (ah rfl rfl (aq rfl rfl ?_));refine aP rfl rfl W6 (qB hM DC ka) (fun al7 al8 hc=>?_);obtain⟨rfl,Ca⟩:=hc;replace hC:=hC.step Ca (fun h=>h);replace hs:=hs.le (by decide) Ca.le;replace hY:=hY.le (by decide) Ca.le;replace gU:=gU.le (by decide) Ca.le;replace ka:=ka.le Ca.le;replace DC:=DC.le Ca.le;replace hM:=Ca.lt hM;have:=S.size;replace S:=S.aB Ca;refine aW rfl rfl rfl (ah rfl rfl (Rg.pP (g:=150) rfl (rfl) (aq rfl rfl (ah rfl rfl (aq rfl rfl ?_)))));refine aP rfl rfl E96 (yt hC hM Nb.may Nb.ps Nb.by_ Nb.ln) (fun agQ agR hc=>?_);obtain⟨rfl,Wp,hC⟩:=hc;have Oy:gv (ua s.2.2.1 ls (dm t)) (rB (ua s.2.2.1 ls (dm t)) ((i:Int)-1))=2147483648:=pq (by unfold rB;rw[if_pos (by omega)];omega);rw[Oy];replace S:=S.cW Wp (fun b (hb:b=bc)=>by omega);refine aq rfl rfl (mB rfl rfl rfl (aW rfl rfl rfl (ak rfl rfl (ae (aQ ?_)))));exact aV rfl rfl ⟨rfl,S.back⟩
end Go.K
namespace Go.K
open Go.Proofs
namespace TKLater
theorem P0:Enters Tryz.prog 15:=enters Tryz.func15 rfl (by decide)
theorem E21:Enters Tryz.prog 21:=enters Tryz.func21 rfl (by decide)
theorem W3:Enters Tryz.prog 25:=enters Tryz.func25 rfl (by decide)
end TKLater
open TKLater
set_option maxRecDepth 10000
theorem Qv (L:List En):(IF (iX L)).2.2.1.length=((keysOf L).map (pk L)).length:=by rw[cj];rfl
theorem FM {L:List En} (h:ym (-1) L=true) (hn:L.length≤1000000) (k:List UInt8):W0 (ua (IF (iX L)).2.2.1 ((keysOf L).map (pk L)) k):=by
 show W0 (ua (keysOf L) _ _);rw[I1];exact PV (lQ h) hn _
end Go.K
namespace Go.K
open Go.Proofs
namespace TKSame10
theorem P0:Enters Tryz.prog 15:=enters Tryz.func15 rfl (by decide)
theorem E21:Enters Tryz.prog 21:=enters Tryz.func21 rfl (by decide)
theorem E23:Enters Tryz.prog 23:=enters Tryz.func23 rfl (by decide)
theorem E27:Enters Tryz.prog 27:=enters Tryz.func27 rfl (by decide)
theorem E28:Enters Tryz.prog 28:=enters Tryz.func28 rfl (by decide)
theorem E30:Enters Tryz.prog 30:=enters Tryz.func30 rfl (by decide)
theorem E31:Enters Tryz.prog 31:=enters Tryz.func31 rfl (by decide)
end TKSame10
open TKSame10
set_option maxRecDepth 10000
theorem LF {L:List En} (h:ym (-1) L=true) (hn:L.length≤100000):LC (IF (iX L)) ((keysOf L).map (pk L)):=by
 have hF:=lQ h
 have hk:(keysOf L).length≤50000000:=by
  have h1:=(kh L).nodup.length_le_of_subset (l₂:=gx L) (fun x hx=>iZ.1 hx);have:=j8 hF;omega
 refine⟨rfl,Qv L,by show(L.map _).length≤_;rw[cj];omega,by show(L.map _).length≤_;rw[cj];omega,by show(keysOf L).length≤_;omega,fun l hl=>?_⟩;obtain⟨k,_,rfl⟩:=cg.1 hl;have h1:=mu k L 0 hF;have iV:ej (-1) (pk L k)=true:=pB k L 0 (-1) hF (by omega) (by omega);have ox:∀p∈pk L k,p.2.length≤500:=fun p hp=>(h1.2 p hp).2.2
 obtain⟨h2,h3⟩:=mU (pk L k) (-1) 500 (by omega) iV ox (by omega);have hl:(pk L k).length≤L.length:=h1.1;exact⟨iV,fun p hp=>by have:=ox p hp;omega,by omega,by omega⟩
end Go.K
namespace Go.K
open Go.Proofs
namespace TKBuilds10
theorem P0:Enters Tryz.prog 15:=enters Tryz.func15 rfl (by decide)
theorem E21:Enters Tryz.prog 21:=enters Tryz.func21 rfl (by decide)
theorem E23:Enters Tryz.prog 23:=enters Tryz.func23 rfl (by decide)
theorem E31:Enters Tryz.prog 31:=enters Tryz.func31 rfl (by decide)
theorem E42:Enters Tryz.prog 42:=enters Tryz.func42 rfl (by decide)
end TKBuilds10
open TKBuilds10
set_option maxRecDepth 10000
theorem Eo {B:Nat}:∀{ls:List (List Po)},(∀l∈ls,(dA (-1) l).length≤B)→kI ls≤(B:Int)*ls.length
 |[],_=>by simp[kI]
 |l::ls,h=>by
  have h1:=Eo (B:=B) (ls:=ls) fun x hx=>h x (cL _ hx)
  have h2:=h l (cx ..);unfold kI at h1 ⊢;rw[fo,List.sum_cons,dr,Int.natCast_succ,Int.mul_add,Int.mul_one];omega
theorem Ep {L:List En} (h:ym (-1) L=true) (hn:L.length≤1000):kI ((keysOf L).map (pk L))≤4611686018427387904∧∀l∈(keysOf L).map (pk L),(dA (-1) l).length≤4518000:=by
 have hF:=lQ h
 have hk:(keysOf L).length≤500000:=by
  have h1:=(kh L).nodup.length_le_of_subset (l₂:=gx L) (fun x hx=>iZ.1 hx);have:=j8 hF;omega
 have hB:∀l∈(keysOf L).map (pk L),(dA (-1) l).length≤4518000:=fun l hl=>by
  obtain⟨k,_,rfl⟩:=cg.1 hl;have h1:=mu k L 0 hF;have iV:ej (-1) (pk L k)=true:=pB k L 0 (-1) hF (by omega) (by omega);have ox:∀p∈pk L k,p.2.length≤500:=fun p hp=>(h1.2 p hp).2.2
  obtain⟨h2,h3⟩:=mU (pk L k) (-1) 500 (by omega) iV ox (by omega);have hl:(pk L k).length≤L.length:=h1.1;omega
 refine⟨?_,hB⟩;have:=Eo hB;rw[cj]at this;omega
theorem LG {M:aL} {L:List En} {t:Fd} {a:Addr} {v1 v2:Value} (w0:World) (hM:Lt M w0) (hok:ym (-1) L=true) (hn:L.length≤1000) (hs:cc RT.se M w0 (.pointer (some a)) (IF (iX L))) (hp:RT.pa.V M w0 (iX L) v1) (ht:RT.fd.V M w0 t v2):
  Spec Tryz.prog 42 #[.pointer (some a),v1,v2] w0 (fun v w=>v= .bool true∧Step M w0 M w aE):=
 FK (s:=IF (iX L)) (ls:=(keysOf L).map (pk L)) (p:=iX L) w0 hM rfl hs (LF hok (by omega)) (kh L) (by show(L.map _).length=(L.map _).length;rw[cj,cj]) (Ep hok hn).1 (fun l hl=>dT ((Ep hok hn).2 l hl) (by decide)) (FM hok (by omega) _) rfl hp ht (zg ht).1 (zg ht).2
theorem qF {M:aL} {l:List Dc} {t:Fd} {v0 v2:Value} {a:Int} {w0:World} (hM:Lt M w0) (hv:(RT.dc.sl).V M w0 l v0) (ha: -9223372036854775808≤a∧a≤9223372036854775807) (ht:RT.fd.V M w0 t v2):
  Spec Tryz.prog 8 #[v0,.int .i64 a,v2] w0 (fun v w=>v= .bool true∧Step M w0 M w aE):=by
 have gB:=hM;refine bu (args:=[_,_,_]) (fn:=Tryz.f8) Tryz.func8 rfl (n:=36) Tryz.ntmps8 ?_;have S:Step M w0 M w0 aE:=(ar _ _).cw (fun _ h=>h.elim) (fun _ h=>h.elim);refine al (aj ?_);refine iw (A:=RT.fd) (a:=t) rfl rfl hM ht rfl (fun u5 wb1 gU Du _=>?_);replace hv:=hv.le Du.le;replace ht:=ht.le Du.le;replace hM:=Du.lt hM;have:=S.size;replace S:=S.aB Du;refine ak rfl rfl (ae ?_);refine T.qY [(0,v0),(5,u5),(1,.int .i64 (if a<0 then-(a+1)else a))] ?_ ?_
 ·refine al (aj (ah rfl rfl (cz rfl rfl rfl (ae ?_))));refine bQ rfl (fun c1=>?_) (fun c1=>?_)
  ·refine aj (ah rfl rfl (bI rfl rfl rfl (by omega) (Rg.neg rfl rfl (by omega) (ak rfl rfl (ae ?_)))));exact⟨rfl,rfl,rfl,.cons rfl (.cons rfl (.cons (by first|exact congrArg (fun z=>some (Value.int .i64 z)) (if_pos c1).symm|exact congrArg (fun z=>some (Value.int .i64 z)) (if_neg c1).symm) (.nil)))⟩
  ·refine aZ ?_;exact⟨rfl,rfl,rfl,.cons rfl (.cons rfl (.cons (by first|exact congrArg (fun z=>some (Value.int .i64 z)) (if_pos c1).symm|exact congrArg (fun z=>some (Value.int .i64 z)) (if_neg c1).symm) (.nil)))⟩
 ·refine al (aj (ah rfl rfl ?_));obtain⟨n2,hn2,ama⟩:∃n2:Nat,(if a<0 then-(a+1)else a)=(n2:Int)∧n2≤9223372036854775807:=⟨(if a<0 then-(a+1)else a).toNat,by split<;>omega,by split<;>omega⟩;rw[hn2];refine ah rfl rfl (Rg.Ad rfl rfl rfl (by omega) ?_);obtain⟨m,hm,hmx⟩:∃m:Nat,(n2:Int)%1000=(m:Int)∧m<1000:=⟨n2%1000,by omega,by omega⟩;rw[hm];obtain⟨hok,_⟩:=BX l (show(0:Int)≤(m:Int) by omega) (show(1:Int)≤1 by decide) 10;have Dv:=k4 l (m:Int) 1 10;refine aP rfl rfl E21 (CJ (most:=10) (a:=(m:Int)) (s:=1) _ hM hv (by decide) (by omega) (by decide)) (fun r1 w1 hc=>?_);obtain⟨hg,s1⟩:=hc;replace hv:=hv.le s1.le;replace gU:=gU.le (by decide) s1.le;replace hM:=s1.lt hM;have:=S.size;replace S:=S.aB s1;refine ak rfl rfl (ae (al (aj (ah rfl rfl ?_))));refine aP rfl rfl P0 (qE _ hM hg wG (by omega) hok) (fun r2 w2 hc=>?_);obtain⟨sa,rfl,hs,s2⟩:=hc;obtain⟨aa,rfl⟩:=hs.fk;replace gU:=gU.le (by decide) s2.le;replace hg:=hg.le s2.le;replace hM:=s2.lt hM;have:=S.size;replace S:=S.aB s2;refine ah rfl rfl (bZ rfl rfl rfl (bZ rfl rfl rfl (ak rfl rfl (ak rfl rfl (ae (al ?_))))));apply T.xU [0,1,2,3,4,6,5,7,8,9,10,11,12] 6 [3,5] 1 aE mixed
  ·simp+decide only[uN,pI,fo,qg,im,iq,jW,dx,ia,kL,cond_true,cond_false,Nat.reduceBEq,Nat.reduceAdd,beq_self_eq_true];rfl
  ·rfl
  ·rfl
  ·rfl
  ·rfl
  ·rfl
  ·rfl
  intro L3 K7;have pL:=K7 M;replace gU:=gU.le (by decide) pL.le;replace hg:=hg.le pL.le;replace hs:=hs.le (by decide) pL.le;replace hM:=pL.lt hM;have:=S.size;replace S:=S.aB pL;refine ah rfl rfl ?_;refine ae ⟨rfl,rfl,rfl,?_⟩;refine mB rfl rfl rfl (bO (v':= .bool true) (by simp) ?_);refine ae ⟨rfl,rfl,rfl,?_⟩;refine ah rfl rfl ?_;refine ae ⟨rfl,rfl,rfl,?_⟩;refine aq rfl rfl (ah rfl rfl ?_);refine ae ⟨rfl,rfl,rfl,?_⟩;refine aq rfl rfl (ah rfl rfl ?_);refine ae ⟨rfl,rfl,rfl,?_⟩;refine aq rfl rfl ?_;refine ch (M:=M) (A:=RT.fd) bw rfl jr (by decide) rfl rfl rfl gU (ao _ _) (fun v55 zI=>?_);refine ae ⟨rfl,rfl,rfl,?_⟩;refine dU ?_;obtain⟨b4,o4,cs4,e4,f4,hq4,Dy,_⟩:=gU.float;refine⟨ew ⟨eE,⟨dC (congrArg some hq4) Dy (fun h=>h),trivial⟩⟩,?_⟩;have kp:=eU aE L3;refine aq rfl rfl ?_;refine aP rfl rfl E31 (zL _ hM hg (lQ hok) wG (by omega)) (fun r56 w56 hc=>?_);obtain⟨hp,Q9⟩:=hc;replace gU:=gU.le (by decide) Q9.le;replace hg:=hg.le Q9.le;replace hs:=hs.le (by decide) Q9.le;replace zI:=zI.le Q9.le;replace hM:=Q9.lt hM;have:=S.size;replace S:=S.aB Q9;refine(fun(kp:dX _ _ _)=>ae ⟨rfl,rfl,fun _=>kp,?_⟩) (by first|exact kp|exact kp.mZ (by assumption)|exact kp.goN (by assumption)|exact kp.go (by assumption) (fun _ _ h=>by first|exact h|exact h.elim));refine aq rfl rfl ?_;refine aP rfl rfl E42 (LG _ hM hok (by omega) hs hp zI) (fun r57 w57 hc=>?_);obtain⟨rfl,Qw⟩:=hc;replace gU:=gU.le (by decide) Qw.le;replace hg:=hg.le Qw.le;replace hs:=hs.le (by decide) Qw.le;replace zI:=zI.le Qw.le;replace hp:=hp.le Qw.le;replace hM:=Qw.lt hM;have:=S.size;replace S:=S.aB Qw;refine ae ⟨rfl,rfl,fun h=>absurd rfl h,?_⟩;refine aW rfl rfl rfl ?_;refine ae ⟨rfl,rfl,fun h=>absurd rfl h,?_⟩;refine ah rfl rfl ?_;refine ae ⟨rfl,rfl,fun h=>absurd rfl h,?_⟩
  refine aq rfl rfl ?_;refine aP rfl rfl E23 (zG _ hM) (fun amb amc hc=>?_);obtain⟨rfl,DD⟩:=hc;replace gU:=gU.le (by decide) DD.le;replace hg:=hg.le DD.le;replace hs:=hs.le (by decide) DD.le;replace zI:=zI.le DD.le;replace hp:=hp.le DD.le;replace hM:=DD.lt hM;have:=S.size;replace S:=S.aB DD;refine ae ⟨rfl,rfl,fun h=>absurd rfl h,?_⟩;refine aW rfl rfl rfl ?_;refine ae ⟨rfl,rfl,fun h=>absurd rfl h,?_⟩;refine ak rfl rfl ?_;refine ae ⟨rfl,rfl,fun h=>absurd rfl h,?_⟩;refine gY (aQ ?_);exact aV rfl rfl ⟨rfl,S⟩
end Go.K

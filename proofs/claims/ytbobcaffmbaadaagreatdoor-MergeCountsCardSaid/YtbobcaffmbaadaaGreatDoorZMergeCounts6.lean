/- What the law 'MergeCounts' needs of walks and plain Lean, part 6: nothing is assumed beyond the texts that it imports. -/
import Derived.KernelRfl
import Derived.Test.YtbobcaffmbaadaaGreatDoorProg
import Derived.Test.YtbobcaffmbaadaaGreatDoorZMergeCounts1
import Derived.Test.YtbobcaffmbaadaaGreatDoorZMergeCounts2
import Derived.Test.YtbobcaffmbaadaaGreatDoorZMergeCounts3
import Derived.Test.YtbobcaffmbaadaaGreatDoorZMergeCounts4
import Derived.Test.YtbobcaffmbaadaaGreatDoorZMergeCounts5
set_option linter.unusedVariables false
set_option linter.unusedSimpArgs false
namespace Go.K
open Go.Proofs
namespace TKOrder11
theorem kx:TI Tryz.prog 124 (.agg #[(.int .i64 0),(.int .i64 0)]) 2 16:=by unfold TI;kernel_rfl
theorem aah:TI Tryz.prog 178 (.pointer none) 1 8:=by unfold TI;kernel_rfl
theorem lX:TI Tryz.prog 183 (.agg #[(.int .i64 0),(.int .i64 0),(.int .i64 0)]) 3 24:=by unfold TI;kernel_rfl
theorem ah6:Enters Tryz.prog 105:=enters Tryz.func105 rfl (by decide)
theorem aai:Enters Tryz.prog 108:=enters Tryz.func108 rfl (by decide)
theorem QC:Enters Tryz.prog 110:=enters Tryz.func110 rfl (by decide)
theorem ah7:Enters Tryz.prog 111:=enters Tryz.func111 rfl (by decide)
end TKOrder11
open TKOrder11
set_option maxRecDepth 10000
theorem y9 {M:aD} {w0:World} {v:Value} {ls:List (List Int)} (hM:Lt M w0) (hv:(((RT.int .i64).sl).sl).V M w0 ls v) (Ik:ls.length≤1099511627776) (hl:∀l∈ls,l.length≤1099511627776) (Vd:rM ls≤1099511627776):
  Spec Tryz.prog 59 #[v] w0 (fun v' w'=>∃M',Lt M' w'∧Step M w0 M' w' aC∧∃vo:Value,∃e:Int,v'= .tuple #[vo,.int .i64 e]∧((¬Up ls∧e=1∧vo= .slice none 0 0)∨(Up ls∧∃r,rz ls r∧((r=none∧e=5∧vo= .slice none 0 0)∨∃out,r=some out∧e=0∧(dX out).length≤1099511627776∧Own RT.fo 124 M' w' w0.heap.size vo (dX out))))):=by
 have hlen:=ej hv;refine bm (args:=[_]) (fn:=Tryz.f59) Tryz.func59 rfl (n:=55) Tryz.ntmps59 (aj (ae ?_));refine wM M rfl rfl (fun bl wb zb zb' gb sb=>?_);have gb:wb.heap[bl]? =some (.cells #[v] 119 (0,0)):=by rw[gb];obtain⟨a,cap,rfl,_⟩:=iB.1 hv;rfl
 refine ah rfl rfl (ah rfl rfl (ab (aj (aj (ae (aP cP rfl rfl rfl gb rfl ?_))))));refine aY rfl rfl ah6 (y8 (M:=ins M bl) (sb.lt hM) (hv.le sb.le) hl) (fun rc wc h=>?_);obtain⟨rfl,sc⟩:=h;have kE:=sc.aM gb;have Sc:=sb.aB sc;clear gb;refine ab ?_;refine bI rfl (fun c1=>?_) (fun c1=>?_)
 ·refine aj (ae (ah rfl rfl (ah rfl rfl (ab (aQ ?_)))));exact fm rfl rfl rfl ⟨_,Sc.lt hM,Sc,_,1,rfl,.inl ⟨c1,rfl,rfl⟩⟩
 ·refine aT (aj (ae ?_));have zQ:Up ls:=Classical.byContradiction c1;refine Rg.Xp bT lX (ins M bl) rfl (fun g wg zg zg' gg sg=>?_);have Sg:=Sc.aB sg;have aaj:=sg.aM kE;clear kE;refine wM (ins (ins M bl) g) rfl rfl (fun bh wh zh zh' gh sh=>?_);have gh:wh.heap[bh]? =some (.cells #[.slice (some ⟨g,0,none⟩) 0 0] 180 (0,0)):=gh;have Sh:=Sg.aB sh;have aak:=sh.aM aaj;have ggh:=sh.aM gg;clear aaj gg;refine eE (ins (ins (ins M bl) g) bh) aah rfl (fun b4 w4 z4 z4' g4 s4=>?_);have S4:=Sh.aB s4;have JL:=s4.aM aak;have gg4:=s4.aM ggh;have gh4:=s4.aM gh;clear aak ggh gh;refine cw (M:=ins (ins (ins (ins M bl) g) bh) b4) (u:= .pointer none) aah rfl rfl g4 rfl rfl (.inl rfl) (fun w5 g5 s5=>?_);have ru:w5.heap[b4]? =some (.cells #[.pointer (some ⟨bh,0,none⟩)] 178 (0,0)):=g5;have hz:=Sc.size;have z2:=sg.size;have z3:=sh.size;have hz5:=ak JL;have kE:=s5.keep JL (fun e=>by have e:bl=b4:=e;have:=ak JL;have:=Sh.size;rw[e]at JL;rw[g4]at JL;simp at JL);have gg5:=s5.keep gg4 (fun e=>by have e:g=b4:=e;omega);have gh5:=s5.keep gh4 (fun e=>by have e:bh=b4:=e;omega);have S5:=S4.cj s5 (fun b hb=>by have hb:b=b4:=hb;omega);have hM5:=S5.lt hM;have ZX:rA 180 183 (ins (ins (ins (ins M bl) g) bh) b4) w5 bh w0.heap.size (.slice (some ⟨g,0,none⟩) 0 0) []:=⟨gh5,.inr (.inl rfl),Own.empty gg5 (by omega) (.inr (.inr (.inl rfl))),by simp,by decide⟩;refine ab (aj (ae (kg (xs:=[]) (ys:=[.tmp 1,.tmp 4]) rfl rfl rfl (ah rfl rfl (ab (aj (aj (ae (aP cP rfl rfl rfl kE rfl (bQ cP rfl (hv.le S5.le) rfl (ad rfl rfl ?_)))))))))));refine ab (aZ ?_);refine dn (σ:=Nat×List Hd) (fun s=>[(1,.pointer (some ⟨bl,0,none⟩)),(2,.slice none 0 0),(3,.int .i64 0),(4,.pointer (some ⟨b4,0,none⟩)),(5,.func (.func 108) #[] #[.pointer (some ⟨bl,0,none⟩),.pointer (some ⟨b4,0,none⟩)]),(16,.int .i64 ls.length),(17,.int .i64 s.1)]) (fun s w=>s.1≤ls.length∧ox ls (fun _=>0) s.1 s.2∧p8 s.2∧(∃M1 v1,Lt M1 w∧rA 180 183 M1 w bh w0.heap.size v1 s.2∧Step M w0 M1 w aC∧w.heap[bl]? =some (.cells #[v] 119 (0,0))∧w.heap[b4]? =some (.cells #[.pointer (some ⟨bh,0,none⟩)] 178 (0,0)))) (fun s=>ls.length-s.1) (0,[]) (.cons rfl (.cons rfl (.cons rfl (.cons rfl (.cons rfl (.cons rfl (.cons rfl .nil))))))) ?_ ?_
  ·exact⟨bD _,ox.zero ls,fun k h0 hk=>by simp at hk,_,_,hM5,ZX,S5,kE,ru⟩
  ·rintro⟨i,hs⟩ w1 ⟨hi,J9,hh,M1,v1,nI,h,S,kE,ru⟩;dsimp only at hi J9 hh h ⊢;clear ZX;refine aj (ae (cg rfl rfl rfl (ab (aj ?_))));refine bI rfl (fun c6=>?_) (fun c6=>?_)
   ·refine aT (aj (aZ (aj (ae (ad rfl rfl (ah rfl rfl (ab (ae (ad rfl rfl (ad rfl rfl ?_))))))))));refine zr (first:=[]) (captured:=[.pointer (some ⟨bl,0,none⟩),.pointer (some ⟨b4,0,none⟩)]) rfl rfl rfl aai (EA (i:=i) (k:=0) nI kE ru (hv.le S.le) h hh (by omega) (by omega) (by have:=J9.len;omega)) (fun rp w2 hq=>?_);obtain⟨M2,v2,E4,h2,hh2,Hk,EX,s2⟩:=hq;have kE:=s2.keep kE (NB.not ⟨_,_,kE⟩ (by decide) (fun e=>by subst e;have:=kE.symm.trans h.h;simp at this));have ru:=s2.keep ru (NB.not ⟨_,_,ru⟩ (by decide) (fun e=>by subst e;have:=ru.symm.trans h.h;simp at this));refine ab (ae (bC rfl rfl rfl (by omega) (ad rfl rfl (ab ?_))));refine⟨rfl,(i+1,E4),(.cons rfl (.cons rfl (.cons rfl (.cons rfl (.cons rfl (.cons rfl (.cons rfl .nil))))))),?_,?_⟩
    ·exact⟨by simp only;omega,J9.fill (by omega) Hk,hh2,M2,v2,EX,h2,S.cj s2 (fun b hb=>hb.2.elim (fun e=>by have e:b=bh:=e;omega) (fun h=>h.1)),kE,ru⟩
    ·show ls.length-(i+1)<ls.length-i;omega
   ·refine cK (aj (ae (ah rfl rfl (ab (aj (aj (ae (ah rfl rfl (ab (aZ ?_))))))))));obtain rfl:i=ls.length:=by omega
    refine dn (σ:=(Nat→Nat)×List Hd×Int×Value×List Hd) (fun s=>[(1,.pointer (some ⟨bl,0,none⟩)),(4,.pointer (some ⟨b4,0,none⟩)),(5,.func (.func 108) #[] #[.pointer (some ⟨bl,0,none⟩),.pointer (some ⟨b4,0,none⟩)]),(7,s.2.2.2.1),(8,.int .i64 s.2.2.1)]) (fun s w=>yS ls s.1 s.2.1 s.2.2.1∧ox ls s.1 ls.length s.2.2.2.2∧p8 s.2.2.2.2∧lW s.2.2.1∧(∃M1 v1,Lt M1 w∧rA 180 183 M1 w bh w0.heap.size v1 s.2.2.2.2∧Step M w0 M1 w aC∧w.heap[bl]? =some (.cells #[v] 119 (0,0))∧w.heap[b4]? =some (.cells #[.pointer (some ⟨bh,0,none⟩)] 178 (0,0))∧Own RT.fo 124 M1 w w0.heap.size s.2.2.2.1 (dX s.2.1))) (fun s=>rem ls s.1) (fun _=>0,[],-1,_,hs) (.cons rfl (.cons rfl (.cons rfl (.cons rfl (.cons rfl .nil))))) ?_ ?_
    ·exact⟨yS.zero ls zQ,J9,hh,⟨by simp only;decide,by simp only;decide⟩,M1,v1,nI,h,S,kE,ru,dD _ _ _ _ _⟩
    ·clear h kE ru S nI;rintro⟨at_,out,last,vo,hs⟩ w1 ⟨St,J9,hh,hlr,M1,v1,nI,h,S,kE,ru,ho⟩;dsimp only at St J9 hh hlr h ho ⊢;refine aj (aj (ae (aP du rfl rfl rfl ru rfl (bN rfl ⟨_,rfl⟩ rfl (aP bT rfl rfl rfl h.h rfl ?_)))));refine aY rfl rfl QC (vH h.o) (fun rl wl h=>?_);obtain⟨rfl,rfl⟩:=h;refine iY rfl rfl rfl (ab ?_);refine bI rfl (fun TL=>?_) (fun TL=>?_)
     ·refine aT (aZ (aj (ae (aP du rfl rfl rfl ru rfl (Rg.xm du rfl rfl rfl ?_)))));refine aY rfl rfl ah7 (NU nI h hh (by omega) (by have:=J9.len;omega)) (fun rp w2 h=>?_);obtain⟨a,b,c,M2,v2,E4,rfl,⟨ra,rb,rc⟩,h2,hh2,Hk,NF,EX,s2⟩:=h;have kE:=s2.keep kE (NB.not ⟨_,_,kE⟩ (by decide) (fun e=>by subst e;have:=kE.symm.trans h.h;simp at this));have ru:=s2.keep ru (NB.not ⟨_,_,ru⟩ (by decide) (fun e=>by subst e;have:=ru.symm.trans h.h;simp at this));have S2:=S.cj s2 (fun b hb=>hb.2.elim (fun e=>by have e:b=bh:=e;omega) (fun h=>h.1));have tc:=ho.step s2 (fun k hk=>NB.not (ho.bt k hk) (by decide) (ho.apart h.h (by decide) k hk));obtain⟨i,n,hi,ku,vU⟩:=(J9.2 _).1 (Hk.mem_iff.1 (bG ..));simp only[ef]at ku;obtain⟨rfl,rfl,rfl⟩:=ku;have ML:=vU.lt.2
      have dV:qI ls i≤1099511627776:=by
       obtain⟨l,O0,_⟩:=vU;unfold qI;rw[aA,O0];exact hl _ (az O0)
      have Su:∀j m,Tr ls j (at_ j) m→a≤m:=fun j m hj=>NF _ ((J9.2 (m,(j:Int),((at_ j:Nat):Int))).2 ⟨j,m,hj.lt.1,rfl,hj⟩)
      have Jh:RT.hd.V M2 w2 (a,(i:Int),((at_ i:Nat):Int)) _:=NG ra rb rc;clear h s2;refine Rg.Hl dK rfl rfl rfl ?_;refine sf (A:=RT.hd) (M:=M2) lX rfl rfl rfl rfl rfl Jh (ao _ _) EX (fun u3 w3 Rz s3 z3=>?_);have kE:=s3.aM kE;have ru:=s3.aM ru;have h3:=h2.aL s3;have yE:=tc.aL s3;have S3:=S2.aB s3;have Y6:=s3.lt EX;have hz3:=S3.size;refine ab (aj (aj (ae ?_)));refine aK (M:=M2) (A:=RT.hd) (B:=RT.int .i64) dK rfl rfl I3 (by decide) (R8) rfl rfl (by decide) (by assumption) (by repeat (first|exact ao _ _|refine aX (bu (by assumption)) ?_)) (fun Zi MX=>?_);refine cd (M:=M2) aw rfl rfl (by assumption) (by repeat (first|exact ao _ _|refine aX (bu (by assumption)) ?_)) (fun NX=>?_);refine aU (v':= .int .i64 (a)) rfl ?_;replace NX: -9223372036854775808≤(a:Int)∧a≤9223372036854775807:=NX;refine ad rfl rfl (qZ rfl rfl rfl (ab ?_));refine bI rfl (fun JX=>?_) (fun JX=>?_)
      ·refine aj (ae (ah rfl rfl (ah rfl rfl (ab (aQ ?_)))));exact fm rfl rfl rfl ⟨_,Y6,S3,_,5,rfl,.inr ⟨zQ,none,St.ZJ zQ vU JX,.inl ⟨rfl,rfl,rfl⟩⟩⟩
      ·refine aT (aj (ae (ad rfl rfl ?_)));refine aK (M:=M2) (A:=RT.hd) (B:=RT.int .i64) dK rfl rfl I3 (by decide) (hd1) rfl rfl (by decide) (by assumption) (by repeat (first|exact ao _ _|refine aX (bu (by assumption)) ?_)) (fun amb ah8=>?_);refine cd (M:=M2) aw rfl rfl (by assumption) (by repeat (first|exact ao _ _|refine aX (bu (by assumption)) ?_)) (fun NY=>?_);refine aU (v':= .int .i64 ((i:Int))) rfl ?_;replace NY: -9223372036854775808≤((i:Int):Int)∧(i:Int)≤9223372036854775807:=NY;refine aK (M:=M2) (A:=RT.hd) (B:=RT.int .i64) dK rfl rfl I3 (by decide) (hd2) rfl rfl (by decide) (by assumption) (by repeat (first|exact ao _ _|refine aX (bu (by assumption)) ?_)) (fun amc ah9=>?_);refine cd (M:=M2) aw rfl rfl (by assumption) (by repeat (first|exact ao _ _|refine aX (bu (by assumption)) ?_)) (fun NZ=>?_);refine aU (v':= .int .i64 (((at_ i:Nat):Int))) rfl ?_;replace NZ: -9223372036854775808≤(((at_ i:Nat):Int):Int)∧((at_ i:Nat):Int)≤9223372036854775807:=NZ;refine Rg.O8 cy kx I3 rfl rfl rfl ?_;refine ep (A:=RT.fo) (hn:=by decide) (M:=M2) eX kx (by decide) rfl rfl Y6 (acQ rb rc) (.inl rfl) (fun u6 w6 IN s6=>?_);have kE:=s6.aM kE;have ru:=s6.aM ru;have h6:=h3.aL s6;have S6:=S3.aB s6;have Jg:=s6.lt Y6;have hz6:=S6.size;have hal:=St.f;have hlo:(dX out).length=out.length:=by unfold dX;simp
       refine dd (M:=M2) (base:=w0.heap.size) eX kx rfl rfl rfl rfl (yE.aL s6) IN (ao _ _) (by rw[hlo];simp;omega) (by rw[hlo];simp;omega) (by omega) (fun vo7 M7 w7 nZ s7=>?_);have uD:∀k,vo.ownBlock=some k→k≠bl∧k≠b4∧k≠bh:=fun k hk=>⟨fun e=>(yE.aL s6).apart kE (by decide) k hk e,fun e=>(yE.aL s6).apart ru (by decide) k hk e,fun e=>(yE.aL s6).apart h6.h (by decide) k hk e⟩
       have kE:=s7.keep kE (fun hk=>(uD _ hk).1 rfl);have ru:=s7.keep ru (fun hk=>(uD _ hk).2.1 rfl);have h7:=h6.keep s7 (fun hk=>(uD _ hk).2.2 rfl) (fun k hk Ba=>(BT.ne ((yE.aL s6).bt k Ba) (h6.o.bt k hk) (by decide)) rfl);have S7:=S6.cj s7 (fun b hb=>(yE.base b hb).1);have hM7:=s7.lt Jg;have hu7:=Rz.le (by decide) (s6.le.trans s7.le);clear h2 h3 h6 tc yE;refine ah rfl rfl (ab (aj (ae ?_)));refine aK (M:=M7) (A:=RT.hd) (B:=RT.int .i64) dK rfl rfl I3 (by decide) (R8) rfl rfl (by decide) (by assumption) (by repeat (first|exact ao _ _|refine aX (bu (by assumption)) ?_)) (fun amd aia=>?_);refine cd (M:=M7) aw rfl rfl (by assumption) (by repeat (first|exact ao _ _|refine aX (bu (by assumption)) ?_)) (fun N0=>?_);refine aU (v':= .int .i64 (a)) rfl ?_;replace N0: -9223372036854775808≤(a:Int)∧a≤9223372036854775807:=N0;refine ah rfl rfl (ab (ae (ad rfl rfl ?_)));refine aK (M:=M7) (A:=RT.hd) (B:=RT.int .i64) dK rfl rfl I3 (by decide) (hd1) rfl rfl (by decide) (by assumption) (by repeat (first|exact ao _ _|refine aX (bu (by assumption)) ?_)) (fun ame aib=>?_);refine cd (M:=M7) aw rfl rfl (by assumption) (by repeat (first|exact ao _ _|refine aX (bu (by assumption)) ?_)) (fun N1=>?_);refine aU (v':= .int .i64 ((i:Int))) rfl ?_;replace N1: -9223372036854775808≤((i:Int):Int)∧(i:Int)≤9223372036854775807:=N1;refine aK (M:=M7) (A:=RT.hd) (B:=RT.int .i64) dK rfl rfl I3 (by decide) (hd2) rfl rfl (by decide) (by assumption) (by repeat (first|exact ao _ _|refine aX (bu (by assumption)) ?_)) (fun amf aic=>?_);refine cd (M:=M7) aw rfl rfl (by assumption) (by repeat (first|exact ao _ _|refine aX (bu (by assumption)) ?_)) (fun N2=>?_);refine aU (v':= .int .i64 (((at_ i:Nat):Int))) rfl ?_
       replace N2: -9223372036854775808≤(((at_ i:Nat):Int):Int)∧((at_ i:Nat):Int)≤9223372036854775807:=N2;refine bC rfl rfl rfl (by omega) (aU (v':= .int .i64 ((at_ i+1:Nat):Int)) (congrArg _ (by omega)) ?_);refine zr (first:=[]) (captured:=[.pointer (some ⟨bl,0,none⟩),.pointer (some ⟨b4,0,none⟩)]) rfl rfl rfl aai (EA (i:=i) (k:=at_ i+1) hM7 kE ru (hv.le S7.le) h7 hh2 hi (by omega) (by have h1:=Hk.length_eq;have h2:=J9.len;rw[cD]at h1;omega)) (fun rp w8 hq=>?_);obtain⟨M8,v8,hs8,h8,hh8,hp8,hM8,s8⟩:=hq;have arq:=kE;have kE:=s8.keep kE (NB.not ⟨_,_,kE⟩ (by decide) (fun e=>by subst e;have:=kE.symm.trans h7.h;simp at this));have ru:=s8.keep ru (NB.not ⟨_,_,ru⟩ (by decide) (fun e=>by subst e;have:=ru.symm.trans h7.h;simp at this));have ho8:=nZ.step s8 (fun k hk=>NB.not (nZ.bt k hk) (by decide) (nZ.apart h7.h (by decide) k hk));have S8:=S7.cj s8 (fun b hb=>hb.2.elim (fun e=>by have e:b=bh:=e;omega) (fun h=>h.1));refine ab ?_;refine⟨rfl,(Eb at_ i,out++[(a,(i:Int),((at_ i:Nat):Int))],a,vo7,hs8),(.cons rfl (.cons rfl (.cons rfl (.cons rfl (.cons rfl .nil))))),?_,?_⟩
       ·refine⟨St.step zQ vU Su JX,J9.next Hk hi hp8,hh8,ra,M8,v8,hM8,h8,S8,kE,ru,?_⟩;unfold dX at ho8 ⊢;rw[cX];exact ho8
       ·show rem ls (Eb at_ i)<rem ls at_;have h1:=(St.step zQ vU Su JX).f;have h2:=St.f;rw[bc,cI]at h1;omega
     ·refine cK (aj (ae (ad rfl rfl (ah rfl rfl (ah rfl rfl (ab (aQ ?_)))))));have rj:hs=[]:=cY.1 (by omega);subst rj;exact fm rfl rfl rfl ⟨_,nI,S,_,0,rfl,.inr ⟨zQ,some out,St.fin (J9.agX),.inr ⟨out,rfl,rfl,(by have:=St.f;unfold dX;rw[aG];omega),ho⟩⟩⟩
theorem EE {M:aD} {w0:World} {v:Value} {ls:List (List Int)} (hM:Lt M w0) (hv:((RT.int .i64).sl.sl).V M w0 ls v) (Ik:ls.length≤1099511627776) (hl:∀l∈ls,l.length≤1099511627776) (Vd:rM ls≤1099511627776):
  Spec Tryz.prog 59 #[v] w0 (fun v' w'=>(∃vo:Value,∃e:Int,v'= .tuple #[vo,.int .i64 e]∧((¬Up ls∧e=1∧vo= .slice none 0 0)∨(Up ls∧∃r,rz ls r∧((r=none∧e=5∧vo= .slice none 0 0)∨∃out,r=some out∧e=0∧((RT.fo).sl).V M w' (dX out) vo))))∧Step M w0 M w' aC):=
 (y9 hM hv Ik hl Vd).mono fun _ w' ⟨M',hM',S,vo,e,h0,h⟩=>⟨⟨vo,e,h0,h.imp id fun⟨hu,r,hr,h⟩=>⟨hu,r,hr,h.imp id fun⟨out,h1,h2,h3,ho⟩=>⟨out,h1,h2,Own.close hM S ho (by omega)⟩⟩⟩,S.back⟩
end Go.K
namespace Go.K
open Go.Proofs
namespace TKSegG
theorem Zx:Enters Tryz.prog 180:=enters Tryz.func180 rfl (by decide)
end TKSegG
open TKSegG
set_option maxRecDepth 10000
theorem GY {M:aD} {w0:World} {v:Value} (hM:Lt M w0):
  Spec Tryz.prog 124 #[v] w0 (fun v' w'=>∃bp,v'= .func (.func 179) [].toArray [.pointer (some ⟨bp,0,none⟩)].toArray∧w'.heap[bp]? =some (.cells v.cells 142 (0,0))∧w0.heap.size≤bp∧Step M w0 M w' aC):=by
 refine bm (args:=[_]) (fn:=Tryz.f124) Tryz.func124 rfl (n:=4) Tryz.ntmps124 (aj (ae ?_));refine wM M rfl rfl (fun bp w1 h1 Ww hS s1=>?_);refine ah rfl rfl (ab (aj (ae (kg (xs:=[]) (ys:=[.tmp 1]) rfl rfl rfl (ah rfl rfl (ab (aQ ?_)))))));exact aV rfl rfl ⟨bp,rfl,hS,h1,s1.back⟩
theorem EF {w0:World} {bp yl:Nat} {v:Value} {l:List Po} {J:Nat→aD→World→Prop} {M:aD} {Jx:World→Prop} (HQ:∀i M w,J i M w→w.heap[bp]? =some (.cells #[v] 142 (0,0))∧Lt M w∧cQ RT.li M w v (mR l)∧∀w',Step M w M w' aC→J i M w') (ot:fS (-1) l=true) (jT:∀p∈l,p.2.length≤1099511627776) (kE:(eg (-1) l).length≤1099511627776) (Ik:l.length≤1099511627776) (hy:∀(i:Nat) (M:aD) (w:World) (u:Value),J i M w→i<(l.length+7)/8→((RT.po).sl).V M w ((l.drop (8*i)).take 8) u→vW Tryz.prog yl [u].toArray w (fun r w'=>∃b,r= .bool b∧(b=true→∃M',J (i+1) M' w')∧(b=false→Jx w'))) (h0:J 0 M w0):
  Spec Tryz.prog 179 #[.func (.yield yl) #[] #[],.pointer (some ⟨bp,0,none⟩)] w0 (fun _ w'=>(∃M',J ((l.length+7)/8) M' w')∨Jx w'):=by
 obtain⟨hb0,hM,hp,kF⟩:=HQ _ _ _ h0;have hnb:(mR l).2.1.length=(l.length+7)/8:=by simp[mR,nt]
 refine bm (args:=[_,_]) (fn:=Tryz.f179) Tryz.func179 rfl (n:=19) Tryz.ntmps179 (aj (ae (aP eW rfl rfl rfl hb0 rfl (bN rfl (cQ.ij hp) rfl ?_))));refine aK (M:=M) (A:=RT.li) (B:=(RT.bl).sl) ed rfl rfl Fs (by decide) (li1) rfl rfl (by decide) (by assumption) (by repeat (first|exact ao _ _|refine aX (bu (by assumption)) ?_)) (fun ars amh=>?_);refine bR (M:=M) eB rfl rfl rfl rfl rfl (by assumption) (by repeat (first|exact ao _ _|refine aX (bu (by assumption)) ?_)) (fun art ami=>?_);refine bQ eB rfl (by assumption) rfl (aU (v':= .int .i64 (((l.length+7)/8:Nat):Int)) (by rw[hnb]) (ad rfl rfl (ab (aZ ?_))));refine dn (σ:=Nat) (fun s=>[(0,.func (.yield yl) #[] #[]),(1,.pointer (some ⟨bp,0,none⟩)),(8,.int .i64 (((l.length+7)/8:Nat):Int)),(9,.int .i64 s)]) (fun s w=>(∃M1,J s M1 w)∧s≤(l.length+7)/8) (fun s=>(l.length+7)/8-s) 0 (.cons rfl (.cons rfl (.cons rfl (.cons rfl .nil)))) ?_ ?_
 ·exact⟨⟨_,h0⟩,bD _⟩
 ·rintro k w1 ⟨⟨M1,hJ⟩,hk⟩;refine aj (ae (cg rfl rfl rfl (ab (aj ?_))));refine bI rfl (fun c1=>?_) (fun c1=>?_)
  ·refine aT (aj (aZ (aj (ae (ad rfl rfl (ah rfl rfl (ab (aj (ae (ad rfl rfl ?_))))))))));obtain⟨uW,nI,OC,aid⟩:=HQ _ _ _ hJ;refine aP eW rfl rfl rfl uW rfl (ad rfl rfl ?_);refine aY rfl rfl Zx (Gi (M:=M1) (k:=k) nI OC ot jT kE) (fun u w4 h4=>?_);obtain⟨s4,h4⟩:=h4;rw[if_pos (by unfold Wx;simp;omega),ay]at h4;refine Rg.yield rfl (vs:=[u]) rfl rfl (hy k M1 _ u (aid _ s4) (by omega) h4) (fun r4 w5 h5=>?_);obtain⟨b,rfl,Re,qE⟩:=h5;refine mO rfl rfl (aU (v':= .bool (decide (¬b=true))) (by simp) (ab ?_));refine bI rfl (fun c3=>?_) (fun c3=>?_)
   ·refine aQ ?_;exact Cv rfl (.inr (qE (by simpa using c3)))
   ·refine aT (ae (bC rfl rfl rfl (by omega) (ad rfl rfl (ab ?_))));refine⟨rfl,k+1,(.cons rfl (.cons rfl (.cons rfl (.cons rfl .nil)))),?_,?_⟩
    ·exact⟨Re (dJ.1 c3),by omega⟩
    ·show _-(k+1)<_-k;omega
  ·refine cK ?_;rw[show k=(l.length+7)/8 from by omega]at hJ;change wR Tryz.prog Tryz.f179 (fun _ w'=>(∃M',J ((l.length+7)/8) M' w')∨Jx w') .normal _ [] _;exact fU rfl (.inl ⟨_,hJ⟩)
end Go.K
namespace Go.K
open Go.Proofs
namespace TKSegH
theorem zM:TI Tryz.prog 80 (.slice none 0 0) 1 24:=by unfold TI;kernel_rfl
theorem aie:Enters Tryz.prog 124:=enters Tryz.func124 rfl (by decide)
theorem aif:Enters Tryz.prog 179:=enters Tryz.func179 rfl (by decide)
end TKSegH
open TKSegH
set_option maxRecDepth 10000
structure rV (M:aD) (w0:World) (v:Value) (bo D bp:Nat) (st:Obj) (vo:Value) (xs:List Po) (M1:aD) (w:World):Prop where
 lt:Lt M1 w
 S:Step M w0 M1 w aC
 mo:M1 bo
 md:M1 D
 mr:M1 (D+1)
 o:w.heap[bo]? =some (.cells #[vo] 80 (0,0))
 d:w.heap[D]? =some (.deferred (some []))
 r:w.heap[D+1]? =some st
 p:w.heap[bp]? =some (.cells #[v] 142 (0,0))
 ne:bo<D∧bp<D∧bo≠bp∧w0.heap.size≤bo∧w0.heap.size≤D
 hk:Own RT.po 83 M1 w (D+2) vo xs
section
variable {M M1 M2:aD} {w0 w w':World} {v vo:Value} {bo D bp:Nat} {st:Obj} {xs:List Po}
theorem rV.step (h:rV M w0 v bo D bp st vo xs M1 w) (s:Step M1 w M2 w' aC):rV M w0 v bo D bp st vo xs M2 w':=
 ⟨s.lt h.lt,h.S.aB s,(s.mem _ (h.lt _ h.mo)).2 h.mo,(s.mem _ (h.lt _ h.md)).2 h.md,(s.mem _ (h.lt _ h.mr)).2 h.mr,s.aM h.o,s.aM h.d,s.aM h.r,s.aM h.p,h.ne,h.hk.aL s⟩
theorem rV.o8 {st':Obj} (h:rV M w0 v bo D bp st vo xs M1 w):rV M w0 v bo D bp st' vo xs M1 (w.putObj (D+1) st'):=by
 have s:Step M1 w M1 (w.putObj (D+1) st') (fun k=>k=D+1):=eC h.mr;obtain⟨e1,e2,e3,e4,e5⟩:=h.ne;exact⟨s.lt h.lt,h.S.cj s (fun k hk=>by subst hk;omega),h.mo,h.md,h.mr,s.keep h.o (by omega),s.keep h.d (by omega),World.putObj_heap_same (ak h.r),s.keep h.p (by omega),h.ne,h.hk.step s (fun k tw hh=>by have:=(h.hk.base k tw).1;omega)⟩
theorem rV.grow {Nw:Value} {R3:List Po} (h:rV M w0 v bo D bp st vo xs M1 w) (s:Step M1 w M2 w' (fun k=>vo.ownBlock=some k)) (hk:Own RT.po 83 M2 w' (D+2) Nw R3):
  (w'.heap[bo]? =some (.cells #[vo] 80 (0,0))∧M2 bo)∧∀{w2:World},Step M2 w' M2 w2 (fun k=>k=bo)→w2.heap[bo]? =some (.cells #[Nw] 80 (0,0))→rV M w0 v bo D bp st Nw R3 M2 w2:=by
 obtain⟨e1,e2,e3,e4,e5⟩:=h.ne;have hn:∀k,vo.ownBlock=some k→D+2≤k:=fun k hk=>(h.hk.base k hk).1
 have eR:=fun {k:Nat} (hm:M1 k)=>(s.mem k (h.lt k hm)).2 hm
 refine⟨⟨s.keep h.o (fun hh=>by have:=hn _ hh;omega),eR h.mo⟩,fun {w2} s2 hx=>?_⟩;have S':=h.S.cj s (fun k hk=>by have:=hn k hk;omega)
 exact⟨s2.lt (s.lt h.lt),S'.cj s2 (fun k hk=>by subst hk;exact e4),eR h.mo,eR h.md,eR h.mr,hx,s2.keep (s.keep h.d (fun hh=>by have:=hn _ hh;omega)) (by omega),s2.keep (s.keep h.r (fun hh=>by have:=hn _ hh;omega)) (by omega),s2.keep (s.keep h.p (fun hh=>by have:=hn _ hh;omega)) (Ne.symm e3),h.ne,
  hk.step s2 (fun k tw hh=>by have:=(hk.base k tw).1;omega)⟩
end
def VP (M:aD) (w0:World) (l:List Po) (v:Value) (bo D bp:Nat) (st:Obj) (i:Nat) (M1:aD) (w:World):Prop:=
 ∃(vo:Value),rV M w0 v bo D bp st vo (l.take (8*i)) M1 w
theorem aal {M:aD} {w0 w2 w3:World} {v:Value} {l:List Po} {bo bp:Nat} {st:Obj} (S2:Step M w0 (ins M bo) w2 aC) (s3:Step (ins M bo) w2 (ins M bo) w3 aC) (hM:Lt M w0) (e1:w0.heap.size≤bo) (e2:bo<w2.heap.size) (e3:w2.heap.size≤bp)
  (hO:w2.heap[bo]? =some (.cells #[.slice none 0 0] 80 (0,0))) (hP:w3.heap[bp]? =some (.cells #[v] 142 (0,0))):∃M1,VP M w0 l v bo w3.heap.size bp st 0 M1 ((w3.alloc (.deferred (some []))).alloc st):=by
 have sA:Step (ins M bo) w3 (ins (ins M bo) w3.heap.size) (w3.alloc (.deferred (some []))) aC:=(dm _ w3 _).own (aN _) (by simp);have sB:Step (ins (ins M bo) w3.heap.size) (w3.alloc (.deferred (some []))) (ins (ins (ins M bo) w3.heap.size) (w3.heap.size+1)) ((w3.alloc (.deferred (some []))).alloc st) aC:=(dm _ _ _).own (by simp) (by simp);have z3:=s3.size;have hp3:=ak hP;have S:=((S2.aB s3).aB sA).aB sB;have hD:(w3.alloc (.deferred (some []))).heap[w3.heap.size]? =some (.deferred (some [])):=cr w3 _;have hR:((w3.alloc (.deferred (some []))).alloc st).heap[w3.heap.size+1]? =some st:=by have:=cr (w3.alloc (.deferred (some []))) st;rwa [World.size_alloc]at this
 have z0:=S2.size;exact⟨_,.slice none 0 0,⟨S.lt hM,S,.inr (.inr (.inl rfl)),.inr (.inl rfl),.inl rfl,sB.aM (sA.aM (s3.aM hO)),sB.aM hD,hR,sB.aM (sA.aM hP),by omega,by rw[Nat.mul_zero,List.take_zero];exact dD _ _ _ _ _⟩⟩
set_option maxHeartbeats 2000000 in
theorem N4 {M:aD} {w0:World} {v:Value} {l:List Po} (hM:Lt M w0) (hv:cQ RT.li M w0 v (mR l)) (ot:fS (-1) l=true) (jT:∀p∈l,p.2.length≤1099511627776) (kE:(eg (-1) l).length≤1099511627776) (Ik:l.length≤1099511627776):
  Spec Tryz.prog 78 #[v] w0 (fun v' w'=>((RT.po).sl).V M w' l v'∧Step M w0 M w' aC):=by
 refine qn (args:=[_]) (fn:=Tryz.f78) Tryz.func78 rfl (n:=12) Tryz.ntmps78 (aj (ae (ah rfl rfl (ab (aj (ae ?_))))));refine eE M zM rfl (fun bo w2 WT Ze hO s2=>?_);refine ab (aj (aj (ae (ad rfl rfl ?_))));refine aY rfl rfl aie (GY (M:=ins M bo) (s2.lt hM)) (fun r w3 h3=>?_);obtain⟨bp,rfl,hP,hbp,s3⟩:=h3;rw[show v.cells= #[v]from by obtain⟨q,rfl⟩:=cQ.ij hv;rfl]at hP;refine ab (aZ ?_);refine T.range (gf:=179) (lb:=[.pointer (some ⟨bp,0,none⟩)].toArray) rfl aif (fun rec pS=>?_);obtain⟨D,hD⟩:∃D,D=w3.heap.size:=⟨_,rfl⟩;rw[←hD]at pS ⊢
 obtain⟨Ms,h0⟩:∃Ms,VP M w0 l v bo D bp (.loop (rec .ready none)) 0 Ms ((w3.alloc (.deferred (some []))).alloc (.loop (rec .ready none))):=by
  rw[hD]at pS ⊢;exact aal s2 s3 hM WT Ze hbp hO hP
 refine Spec.mono (EF (J:=VP M w0 l v bo D bp (.loop (rec .ready none))) (Jx:=fun _=>False) (fun i M1 w ⟨vo,h⟩=>⟨h.p,h.lt,hv.le (by decide) h.S.le,fun w' s=>⟨vo,h.step s⟩⟩) ot jT kE Ik (fun i M1 wr u hJ hi hu=>?_) h0) (fun _ w4 h4=>?_)
 ·obtain⟨vo,h⟩:=hJ;refine nT (ps:=[7]) (vs:=[u]) pS h.r rfl (by decide) (ae (ah rfl rfl (ab ?_)));refine⟨rfl,h.r,?_⟩;have sR:Step M1 wr M1 (wr.putObj (D+1) (.loop (rec .busy none))) (fun k=>k=D+1):=eC h.mr;have Q0:=hu.le sR.le;have h1:=h.o8 (st':= .loop (rec .busy none));generalize wr.putObj (D+1) _=wB at h1 Q0 ⊢;refine aZ (ae (aP bA rfl rfl rfl h1.o rfl (ad rfl rfl ?_)));refine dd (M:=M1) (base:=D+2) bA nW rfl rfl rfl rfl h1.hk Q0 (ao _ _) (by simp;omega) (by simp;omega) (by have:=ak h1.r;omega) (fun v3 M3 w4 yE s4=>?_);obtain⟨⟨Jh,hm3⟩,JR⟩:=h1.grow s4 yE;refine cw (M:=M3) zM rfl rfl Jh rfl (by obtain⟨_,_,he,_⟩:=yE.isSlice;rw[he];rfl) hm3 (fun w5 hX5 s5=>?_);have h5:=(JR s5 hX5).o8 (st':= .loop (rec .ready none));have h6:=JR s5 hX5;refine ab ?_;refine⟨h6.r,true,rfl,fun _=>⟨M3,v3,?_⟩,fun h=>by cases h⟩;rw[show 8*(i+1)=8*i+8 from by omega,List.take_add];exact h5
 ·obtain⟨Mz,vo,h⟩:=h4.resolve_right (fun h=>h);left;rw[aW (by omega)]at h;have h5:=h.o8 (st':= .loop (rec .exhausted none));refine⟨h.r,?_⟩;generalize w4.putObj (D+1) _=wE at h5 ⊢;refine aj (ae (aP bA rfl rfl rfl h5.o rfl (ah rfl rfl (ab (aQ ?_)))));obtain⟨q1,q2,q3,q4,q5⟩:=h5.ne;have sZ:Step Mz wE Mz (wE.putObj D (.deferred none)) (fun k=>k=D):=eC h5.md;have SZ:=h5.S.cj sZ (fun k hk=>by subst hk;omega);exact Bf rfl rfl h5.d ⟨Own.close hM SZ ((h5.hk.step sZ (fun k hk hh=>by have:=(h5.hk.base k hk).1;omega)).oL (by omega)) (by omega),SZ.back⟩
end Go.K
namespace Go.K
open Go.Proofs
namespace TKSegJ
theorem zM:TI Tryz.prog 80 (.slice none 0 0) 1 24:=by unfold TI;kernel_rfl
end TKSegJ
open TKSegJ
set_option maxRecDepth 10000
end Go.K
namespace Go.K
open Go.Proofs
namespace TKSegL
theorem Gm:TI Tryz.prog 58 (.slice none 0 0) 1 24:=by unfold TI;kernel_rfl
theorem zM:TI Tryz.prog 80 (.slice none 0 0) 1 24:=by unfold TI;kernel_rfl
end TKSegL
open TKSegL
set_option maxRecDepth 10000
end Go.K
namespace Go.K
open Go.Proofs
namespace TKSegK
theorem Gm:TI Tryz.prog 58 (.slice none 0 0) 1 24:=by unfold TI;kernel_rfl
theorem OD:TI Tryz.prog 72 (.agg #[(.slice none 0 0),(.slice none 0 0),(.slice none 0 0),(.slice none 0 0)]) 4 96:=by unfold TI;kernel_rfl
theorem zM:TI Tryz.prog 80 (.slice none 0 0) 1 24:=by unfold TI;kernel_rfl
theorem Gv:TI Tryz.prog 139 (.pointer none) 1 8:=by unfold TI;kernel_rfl
theorem UW:Enters Tryz.prog 51:=enters Tryz.func51 rfl (by decide)
theorem E76:Enters Tryz.prog 76:=enters Tryz.func76 rfl (by decide)
theorem E77:Enters Tryz.prog 77:=enters Tryz.func77 rfl (by decide)
theorem E78:Enters Tryz.prog 78:=enters Tryz.func78 rfl (by decide)
theorem Zv:Enters Tryz.prog 123:=enters Tryz.func123 rfl (by decide)
end TKSegK
open TKSegK
set_option maxRecDepth 10000
end Go.K
namespace Go.K
open Go.Proofs
namespace TKSegM
theorem Gm:TI Tryz.prog 58 (.slice none 0 0) 1 24:=by unfold TI;kernel_rfl
theorem OD:TI Tryz.prog 72 (.agg #[(.slice none 0 0),(.slice none 0 0),(.slice none 0 0),(.slice none 0 0)]) 4 96:=by unfold TI;kernel_rfl
end TKSegM
open TKSegM
set_option maxRecDepth 10000
structure aam (s:Se) (ls:List (List Po)):Prop where
 hls:s.2.2.2=ls.map mR
 hdl:s.2.2.1.length=ls.length
 hn1:s.1.length≤1000000
 hn2:s.2.1.length≤1000000
 hd6:s.2.2.1.length≤1000000000
 hok:∀l∈ls,fS (-1) l=true∧(∀p∈l,p.2.length≤1099511627776)∧(eg (-1) l).length≤1099511627776∧l.length≤1099511627776
end Go.K
namespace Go.K
open Go.Proofs
namespace TKSegN
theorem Gm:TI Tryz.prog 58 (.slice none 0 0) 1 24:=by unfold TI;kernel_rfl
theorem zM:TI Tryz.prog 80 (.slice none 0 0) 1 24:=by unfold TI;kernel_rfl
end TKSegN
open TKSegN
set_option maxRecDepth 10000
end Go.K
namespace Go.K
open Go.Proofs
namespace TKSegQ
theorem Gm:TI Tryz.prog 58 (.slice none 0 0) 1 24:=by unfold TI;kernel_rfl
theorem zM:TI Tryz.prog 80 (.slice none 0 0) 1 24:=by unfold TI;kernel_rfl
theorem Gv:TI Tryz.prog 139 (.pointer none) 1 8:=by unfold TI;kernel_rfl
theorem E78:Enters Tryz.prog 78:=enters Tryz.func78 rfl (by decide)
theorem E79:Enters Tryz.prog 79:=enters Tryz.func79 rfl (by decide)
end TKSegQ
open TKSegQ
set_option maxRecDepth 10000
theorem tg {M:aD} {s:Se} {ls:List (List Po)} {k:List UInt8} {v0:Value} (w0:World) (hM:Lt M w0) (hs:cQ RT.se M w0 v0 s) (zQ:Cp s.2.2.1) (ok:aam s ls):
  Spec Tryz.prog 36 #[v0,sv k] w0 (fun v w=>(RT.po.sl).V M w (HW s.2.2.1 ls k) v∧Step M w0 M w aC):=by
 refine bm (args:=[_,_]) (fn:=Tryz.f36) Tryz.func36 rfl (n:=20) Tryz.ntmps36 ?_;have S:Step M w0 M w0 aC:=(ax _ _).cH (fun _ h=>h.elim) (fun _ h=>h.elim);refine aj (ae (ah rfl rfl (ab (aj (ae (ad rfl rfl (bN rfl hs.ij rfl ?_)))))));refine aK (M:=M) (A:=RT.se) (B:=(RT.di).ptr) sm rfl rfl Gv (by decide) se2 rfl rfl (by decide) hs (ao _ _) (fun F2 og=>?_);refine bR (M:=M) iF rfl rfl rfl rfl rfl og (ao _ _) (fun vd Zw=>?_);refine ad rfl rfl ?_;refine aY rfl rfl E79 (find_spec (k:=k) _ hM (nf.1 Zw) zQ (by rw[ok.hls,aG];exact ok.hdl)) (fun r6 w6 hc=>?_);obtain⟨s6,hr⟩:=hc
 obtain⟨p,rfl,hF⟩:∃p,r6= .tuple #[p,.bool (decide (k∈s.2.2.1))]∧tZ s.2.2 k M p w6:=by
  rcases hr with⟨j,p,tl,rfl,h3,h4,h5⟩|⟨rfl,h3⟩
  ·exact⟨p,by rw[decide_eq_true (az h3)],.inl ⟨j,tl,h3,h4,h5⟩⟩
  ·exact⟨_,by rw[decide_eq_false h3],.inr ⟨rfl,h3⟩⟩
 replace hM:=s6.lt hM;have:=S.size;replace S:=S.aB s6;refine ad rfl rfl (bZ rfl rfl rfl (bZ rfl rfl rfl (ah rfl rfl (ah rfl rfl (ab (aj (aj (ae (ad rfl rfl (mO rfl rfl (aU (v':= .bool (decide (k∉s.2.2.1))) (by simp) ?_)))))))))));refine ab ?_;refine bI rfl (fun c2=>?_) (fun c2=>?_)
 ·refine aj (ae (ah rfl rfl (ab (aQ ?_))));exact aV rfl rfl ⟨by rw[yM c2];exact pB,S⟩
 ·refine aT (aj (ae (ad rfl rfl ?_)));obtain⟨j,tl,TZ,rG,ET⟩:=hF.resolve_right (fun h=>h.2 (dJ.1 c2));rw[ok.hls,br]at rG;obtain⟨l,O0,rfl⟩:=Option.map_eq_some_iff.1 rG;obtain⟨ot,hrp,hrb,hrl⟩:=ok.hok l (az O0);refine aY rfl rfl E78 (N4 hM ET ot hrp hrb hrl) (fun r4 w4 hc=>?_);obtain⟨hr4,s4⟩:=hc;replace hM:=s4.lt hM;have:=S.size;replace S:=S.aB s4;refine ah rfl rfl (ab (aQ ?_));exact aV rfl rfl ⟨by rw[Gz zQ.nodup TZ O0];exact hr4,S⟩
end Go.K
namespace Go.K
open Go.Proofs
set_option maxRecDepth 10000
theorem N5 (L:List En):(pq (fk L)).2.2.2=((keysOf L).map (pk L)).map mR:=rfl
theorem GZ (L:List En):(pq (fk L)).2.2.1.length=((keysOf L).map (pk L)).length:=by rw[aG];rfl
end Go.K
namespace Go.K
section
variable {P:Program} {r:Option Nat} {n:Nat} {L:Sl} {ds:List Deferred} {w:World} {K:Kt}
def zc (o:Oper):Oper:=⟨o.dst,o.op,o.type,o.pos,#[],o.guard⟩
def loose:Nat→List Oper→List Oper
 |_,[]=>[]
 |0,o::l=>zc o::l
 |q+1,o::l=>o::loose q l
theorem l3:∀(q:Nat) (l:List Oper),(loose q l).length=l.length
 |_,[]=>by cases ‹Nat› <;>rfl
 |0,o::l=>rfl
 |q+1,o::l=>by show(loose q l).length+1=_;rw[l3 q l];rfl
def Alike (o o2:Oper):Prop:=(o2=o∨o2=zc o)
theorem oB:∀{q:Nat} {l:List Oper} {j:Nat} {o:Oper},l[j]? =some o→∃o2,(loose q l)[j]? =some o2∧Alike o o2
 |_,[],j,o,h=>by simp at h
 |0,x::l,0,o,h=>⟨zc x,rfl,by simp at h;subst h;exact .inr rfl⟩
 |0,x::l,j+1,o,h=>⟨o,by simpa[loose]using h,.inl rfl⟩
 |q+1,x::l,0,o,h=>⟨x,rfl,by simp at h;subst h;exact .inl rfl⟩
 |q+1,x::l,j+1,o,h=>by
  obtain⟨o2,h1,h2⟩:=oB (q:=q) (l:=l) (j:=j) (o:=o) (by simpa using h);exact⟨o2,by simpa[loose]using h1,h2⟩
theorem JM {q:Nat} {l:List Oper} {j:Nat} {o2:Oper} (h:(loose q l)[j]? =some o2):∃o,l[j]? =some o∧Alike o o2:=by
 have hj:=(an.1 h).1;rw[l3]at hj;obtain⟨o3,h1,h2⟩:=oB (q:=q) (ar hj);rw[h]at h1;cases h1;exact⟨_,ar hj,h2⟩
theorem Alike.cv {o o2:Oper} (h:Alike o o2):∀k∈cv o2,k∈Go.K.cv o:=fun k hk=>by
 rcases h with rfl|rfl
 ·exact hk
 ·simp[Go.K.cv,zc]at hk
theorem zV {q:Nat} {l:List Oper} (tmps:Array Value) (j:Nat):yielded (loose q l).toArray tmps j=yielded l.toArray tmps j:=by
 unfold yielded
 have:((loose q l).toArray[j]?).bind (·.dst)=(l.toArray[j]?).bind (·.dst):=by
  simp only[eD]
  cases ho:l[j]? with
  |some o=>obtain⟨o2,h1,h2⟩:=oB (q:=q) ho;rw[h1];rcases h2 with rfl|rfl<;>rfl
  |none=>rw[dx (by rw[l3];exact List.getElem?_eq_none_iff.1 ho)]
 rw[this]
theorem B4 {q:Nat} {l:List Oper} (tmps:Array Value) {o o2:Oper} (h:Alike o o2):Region.wanted o2 (yielded (loose q l).toArray tmps)=Region.wanted o (yielded l.toArray tmps):=by
 have hg:o2.guard=o.guard:=by rcases h with rfl|rfl<;>rfl
 unfold Region.wanted;rw[hg]
 cases o.guard with
 |none=>rfl
 |some g=>simp only[zV]
theorem JN {q:Nat} {l:List Oper} {Q:Exit→Act→World→Prop} {j:Nat} {o:Oper} {rest:List Nat} {a:Act} (ho:l[j]? =some o)
  (h:wpOpsIn (FW r) 0 P (loose q l).toArray (fun e a w=>match e with| .normal=>wpOpsIn (FW r) 0 P l.toArray Q rest a w|e=>Q e a w) [j] a w):wpOpsIn (FW r) 0 P l.toArray Q (j::rest) a w:=by
 obtain⟨o2,tc,hA⟩:=oB (q:=q) ho;simp only[wpOpsIn,eD,ho,tc,B4 _ hA]at h ⊢
 split at h
 ·rename_i hw
  rw[if_pos hw];have h':Oper.wpIn (FW r) 0 P o a w (fun x x_1=>wpOpsIn (FW r) 0 P l.toArray Q rest x x_1) (fun e a w=>match e with| .normal=>wpOpsIn (FW r) 0 P l.toArray Q rest a w|e=>Q e a w):=by rcases hA with rfl|rfl<;>exact h
  clear h tc hA;refine⟨h'.1,?_⟩;have h2:=h'.2;generalize (Oper.semAt (FW r).round a.eval o).run P w=res at h2 ⊢
  cases res with
  |ok nx w'=>
   cases nx with
   |enter f args=>exact⟨h2.1,h2.2.mono fun e wV he=>by cases e<;>exact he⟩
   |round l f tmps rE body=>exact⟨h2.1,h2.2.mono fun e wV he=>by cases e<;>exact he⟩
   |_=>exact h2
  |halt x w'=>cases x<;>exact h2
 ·rename_i hw
  rw[if_neg hw];rcases hA with rfl|rfl<;>exact⟨h.1,h.2⟩
theorem gX.loose (q:Nat) {l:List Oper} {wd:World} (h:gX P r n (Go.K.loose q l) L ds wd K):gX P r n l L ds wd K:=by
 intro a ha;obtain⟨J,h1,h2,h3,h4⟩:=h a ha;rw[l3]at h1 h3;refine⟨J,h1,fun Q D a w j o rest hj ho pE hp lz hJ hk=>?_,h3,h4⟩;obtain⟨o2,tc,hA⟩:=oB (q:=q) ho;refine JN (q:=q) ho (h2 _ D a w j o2 [] (by rw[l3];exact hj) tc pE (fun k hk=>hp k (hA.cv k hk)) (fun i o' gy hD k hk=>?_) hJ fun a' w' SG=>hk _ _ SG);obtain⟨o3,h5,h6⟩:=JM gy;exact lz i o3 h5 hD k (h6.cv k hk)
theorem T.VQ {id:Nat} {l l':List Oper} (q:Nat) (π:List Nat) (m:Nat) (fl:List Nat) (c:Nat) (N:aD) (hm:P.follows .mixedOrders=true) (Ff:xK π (loose q l)=l') (rI:eH l 0=true) (aan:eH (loose q l) 0=true) (hπ:lA π l.length=true) (qj:Nat.blt m l'.length=true) (dv:eH l' 0=true) (mQ:kq l' m=true) (ES:ll l' m fl c=true)
  (h:∀wD,(∀M,Step M w M wD aC)→lh P r n l'.toArray (l'.take m) L ds wD (fun L'=>(∀j o,j∈fl→l'[j]? =some o→bX P N wD L' o)∧sx P r n l'.toArray N wD K c (l'.drop m) L' ds wD)):T P r n (.region id l.toArray true) L ds w K:=by
 subst Ff;exact gX.t hm rI fun wD hD=> .loose q (.perm π (by rw[l3];exact hπ) aan (xJ m fl c N qj dv mQ ES (h wD hD)))
end
end Go.K
namespace Go.K
open Go.Proofs
namespace TKMerge
theorem J7:TI Tryz.prog 25 (.pointer none) 1 8:=by unfold TI;kernel_rfl
theorem Qu:TI Tryz.prog 47 (.pointer none) 1 8:=by unfold TI;kernel_rfl
theorem Gm:TI Tryz.prog 58 (.slice none 0 0) 1 24:=by unfold TI;kernel_rfl
theorem OD:TI Tryz.prog 72 (.agg #[(.slice none 0 0),(.slice none 0 0),(.slice none 0 0),(.slice none 0 0)]) 4 96:=by unfold TI;kernel_rfl
theorem zM:TI Tryz.prog 80 (.slice none 0 0) 1 24:=by unfold TI;kernel_rfl
theorem kx:TI Tryz.prog 124 (.agg #[(.int .i64 0),(.int .i64 0)]) 2 16:=by unfold TI;kernel_rfl
theorem VF:Enters Tryz.prog 34:=enters Tryz.func34 rfl (by decide)
theorem E36:Enters Tryz.prog 36:=enters Tryz.func36 rfl (by decide)
theorem E38:Enters Tryz.prog 38:=enters Tryz.func38 rfl (by decide)
theorem E43:Enters Tryz.prog 43:=enters Tryz.func43 rfl (by decide)
theorem E56:Enters Tryz.prog 56:=enters Tryz.func56 rfl (by decide)
theorem E57:Enters Tryz.prog 57:=enters Tryz.func57 rfl (by decide)
theorem E58:Enters Tryz.prog 58:=enters Tryz.func58 rfl (by decide)
theorem E59:Enters Tryz.prog 59:=enters Tryz.func59 rfl (by decide)
theorem E60:Enters Tryz.prog 60:=enters Tryz.func60 rfl (by decide)
theorem E61:Enters Tryz.prog 61:=enters Tryz.func61 rfl (by decide)
theorem E62:Enters Tryz.prog 62:=enters Tryz.func62 rfl (by decide)
theorem E63:Enters Tryz.prog 63:=enters Tryz.func63 rfl (by decide)
theorem E64:Enters Tryz.prog 64:=enters Tryz.func64 rfl (by decide)
end TKMerge
open TKMerge
set_option maxRecDepth 10000
def kK (M:aD) (w:World) (g:Gs) (bs:List Nat):Prop:=bs.length=g.length∧∀(i b:Nat) (p:List En×List Bool),bs[i]? =some b→g[i]? =some p→Er M w p.2 b
theorem kK.le {M M':aD} {w w':World} {g:Gs} {bs:List Nat} (hl:Le M w M' w') (h:kK M w g bs):kK M' w' g bs:=⟨h.1,fun i b p h1 h2=>(h.2 i b p h1 h2).le hl⟩
theorem N6 {M:aD} {w:World} {xs:List Int} {v:Value} (h:((RT.int .i64).sl).V M w xs v):∀x∈xs,-9223372036854775808≤x∧x≤9223372036854775807:=fun x hx=>by
 obtain⟨a,cap,_,_,_,hs⟩:=iB.1 h;rcases hs with rfl|⟨b,o,_,_,h3⟩
 ·cases hx
 ·obtain⟨i,hi⟩:=bB.1 hx;obtain⟨vs,hr,_⟩:=h3 i x hi;exact hr.2
theorem G0 {M:aD} {w:World} {s:Se} {v:Value} (h:cQ RT.se M w v s):(∀x∈s.1,-9223372036854775808≤x∧x≤9223372036854775807)∧∀x∈s.2.1,-9223372036854775808≤x∧x≤9223372036854775807:=by
 obtain⟨b,o,vs,_,_,⟨va,vb,rfl,h1,vc,vd,rfl,h2,h3⟩,_⟩:=h;exact⟨N6 (v:=(RT.int .i64).sl.val va) ⟨va,h1,rfl⟩,N6 (v:=(RT.int .i64).sl.val vc) ⟨vc,h2,rfl⟩⟩
theorem N7 {L:List En} {a:List Bool} {d:Int} (h:d∈gq a) (hl:a.length=L.length):Jl (pq (fk L)).2.1 d=td L d:=by
 obtain⟨k,rfl,hk⟩:=kZ.1 h;have h1:=(an.1 hk).1;unfold Jl td;rw[if_pos ⟨by omega,by show(k:Int)<(L.map _).length;rw[aG];omega⟩];rfl
theorem N8 {L:List En} {a:List Bool} {d:Int} (h:d∈gq a) (hl:a.length=L.length):td L d∈(pq (fk L)).2.1:=by
 obtain⟨k,rfl,hk⟩:=kZ.1 h;have h1:k<(L.map (·.2)).length:=by rw[aG];have:=(an.1 hk).1;omega
 unfold td;rw[ay,aA,ar h1];exact uH _
theorem QE {ls:List (List Int)} {a:Nat} (h:∀l∈ls,l.length≤a):rM ls≤a*ls.length:=by
 have key:∀n,n≤ls.length→yR (qI ls) n≤a*n:=by
  intro n
  induction n with
  |zero=>intro _;exact bD _
  |succ n ih=>
   intro hn;have h1:=ih (by omega)
   have h2:qI ls n≤a:=by
    unfold qI;rw[aA,ar (by omega)];exact h _ (uH _)
   unfold yR;rw[Nat.mul_add];omega
 exact key ls.length (aN _)
theorem B5 {g:Gs} (hg:H0 g):Up (ky g):=fun l hl=>by
 obtain⟨p,hp,rfl⟩:=bP.1 hl;obtain⟨h1,h2⟩:=hg p hp;have hu:=vC h1
 have ML:∀d∈gq p.2,∃(k:Nat) (hk:k<p.1.length),d=k∧td p.1 d=(p.1[k]'hk).2:=fun d hd=>by
  obtain⟨k,rfl,hk⟩:=kZ.1 hd;have tx:k<p.1.length:=by have:=(an.1 hk).1;omega
  refine⟨k,tx,rfl,?_⟩;unfold td;rw[ay,aA,br,ar tx];rfl
 refine yz (fun x hx=>?_) (cA.2 ((ud p.2).imp_of_mem fun {a b} ha hb WX=>?_))
 ·obtain⟨d,hd,rfl⟩:=bP.1 hx;obtain⟨k,hk,rfl,e⟩:=ML d hd;rw[e];exact(ue h1 _ (uH _)).1
 ·obtain⟨k,hk,rfl,e⟩:=ML a ha;obtain⟨k',tw,rfl,e'⟩:=ML b hb;rw[e,e'];exact(cu.1 hu) k k' hk tw (by omega)
theorem QF {o os:List Fo} {k:Nat} {x y:Fo} (hl:os.length=o.length) (hx:(os.take k++o.drop k)[k]? =some x) (hy:os[k]? =some y):(os.take k++o.drop k).set k y=os.take (k+1)++o.drop (k+1):=by
 have hk:k<os.length:=(an.1 hy).1;rw[List.set_append_right _ _ (by rw[bg];omega),bg,qa (by omega),Nat.sub_self,bV,hy,cE,List.append_assoc];congr 1;rw[dG (by omega:k<o.length)];rfl
theorem A1 {M:aD} {w:World}:∀n:Nat,dZ ((RT.int .i64).sl) M w (List.replicate n []) (List.replicate n (.slice none 0 0))
 |0=>rfl
 |n+1=>⟨[.slice none 0 0],_,rfl,⟨none,0,rfl,bD _,bD _,.inl rfl⟩,A1 n⟩
theorem Mg.VR {g:Gs} {os:List Fo} {E:List En} (h:Mg g os E) (hn:∀p∈g,p.1.length≤10000):os.length≤g.length*10000:=by
 have h1:=h.nd.length_le_of_subset (l₂:=(List.range g.length).flatMap fun(i:Nat)=>(List.range 10000).map fun(d:Nat)=>(((i:Int),(d:Int)):Fo)) (fun x hx=>by
  obtain⟨k,hk⟩:=bB.1 hx;obtain⟨i,d,e,rfl,_,L,a,a1,a2,_⟩:=h.at_ k x hk;have h3:=hn _ (az a1);have h4:=(an.1 a2).1;exact uI.2 ⟨i,so.2 (an.1 a1).1,bP.2 ⟨d,so.2 (by simp only at h3;omega),rfl⟩⟩)
 have h2:∀n:Nat,((List.range n).flatMap fun(i:Nat)=>(List.range 10000).map fun(d:Nat)=>(((i:Int),(d:Int)):Fo)).length=n*10000:=fun n=>by
  rw[List.length_flatMap];simp only[aG,List.length_range,List.map_const'];rw[List.sum_replicate_nat]
 rw[h2]at h1;exact h1
theorem H7 {a:Nat}:∀{ks:List (List (List UInt8))},(∀l∈ks,l.length≤a)→ks.flatten.length≤a*ks.length
 |[],_=>by simp
 |l::ks,h=>by
  have h1:=h l (bG ..);have h2:=H7 (ks:=ks) fun x hx=>h x (bU _ hx)
  rw[List.flatten_cons,bc,cD,Nat.mul_add];omega
theorem EG {g:Gs} {tos:List (List Int)} {k:List UInt8} (hg:H0 g) (hn:∀p∈g,p.1.length≤10000):∀{n:Nat},n≤g.length→(xb g tos k n).length≤n*10000
 |0,_=>by simp[xb]
 |n+1,h=>by
  have h1:=EG (k:=k) (tos:=tos) hg hn (n:=n) (by omega);have mI:g[n]? =some g[n]:=ar (by omega);have h2:=tf (tos.getD n []) (pk (g.getD n ([],[])).1 k);rw[show g.getD n ([],[])=g[n]from by rw[aA,mI];rfl]at h2;have h3:(pk g[n].1 k).length≤g[n].1.length:=(pf k g[n].1 0 (jL (hg _ (az mI)).1)).1;have h4:=hn _ (az mI);rw[vD,bc,show g.getD n ([],[])=g[n]from by rw[aA,mI];rfl];omega
theorem nj {α:Type} {f:α→Bool} {l:List α} {q:Nat} {x:α} (h:l[q]? =some x):(l.take (q+1)).filter f=if f x=true then(l.take q).filter f++[x]else(l.take q).filter f:=by
 rw[bV,h,cE,List.filter_append]
 split<;>rename_i h1<;>simp[h1]
theorem B6 {L:List En} (h:qU (-1) L=true) (hn:L.length≤100000):aam (pq (fk L)) ((keysOf L).map (pk L)):=by
 have hF:=jL h
 have hk:(keysOf L).length≤50000000:=by
  have h1:=(iX L).nodup.length_le_of_subset (l₂:=iD L) (fun x hx=>jn.1 hx);have:=om hF;omega
 refine⟨rfl,GZ L,by show(L.map _).length≤_;rw[aG];omega,by show(L.map _).length≤_;rw[aG];omega,by show(keysOf L).length≤_;omega,fun l hl=>?_⟩;obtain⟨k,_,rfl⟩:=bP.1 hl;have h1:=pf k L 0 hF;have ot:fS (-1) (pk L k)=true:=tW k L 0 (-1) hF (by omega) (by omega);have jT:∀p∈pk L k,p.2.length≤500:=fun p hp=>(h1.2 p hp).2.2
 obtain⟨h2,h3⟩:=vh (pk L k) (-1) 500 (by omega) ot jT (by omega);have hl:(pk L k).length≤L.length:=h1.1;exact⟨ot,fun p hp=>by have:=jT p hp;omega,by omega,by omega⟩
theorem N9 {g:Gs} (hg:H0 g) (h:rz (ky g) none):El g:=by
 obtain⟨i,k,i',k',n,eQ,h1,h2⟩:=h;obtain⟨d,e,a1,a2,a3,a4,a5⟩:=xq hg h1;obtain⟨d',e',b1,b2,b3,b4,b5⟩:=xq hg h2;refine⟨i,d,i',d',e,e',a1,b1,fun⟨hi,hd⟩=>eQ ⟨hi,?_⟩,by rw[←a3,←b3]⟩;subst hi;subst hd;obtain⟨L,a,c1,_⟩:=a1;have Qm:(iP g).getD i []=gq a:=by unfold iP;rw[aA,br,c1];rfl
 rw[Qm]at a5 b5;have oD:(gq a).Nodup:=(ud a).imp fun h e=>by omega
 obtain⟨p1,p2⟩:=an.1 a5;obtain⟨q1,q2⟩:=an.1 b5;exact(List.getElem_inj (h₀:=p1) (h₁:=q1) oD).1 (p2.trans q2.symm)
theorem VS {g:Gs} (hg:H0 g) {out:List Hd} (h:rz (ky g) (some out)) {k:Nat} {x:Fo} (hk:(dX out)[k]? =some x):∃(i q d:Nat) (t:List Int),x=((i:Int),(q:Int))∧(iP g)[i]? =some t∧t[q]? =some (d:Int)∧(kz g (dX out))[k]? =some ((i:Int),(d:Int)):=by
 unfold dX at hk;rw[br]at hk
 cases ho:out[k]? with
 |none=>rw[ho]at hk;simp at hk
 |some o=>
  rw[ho]at hk;obtain⟨i,q,e1,e2⟩:=h.2.1 o (az ho);obtain rfl:o.2=x:=by simpa using hk
  obtain⟨d,e,a1,a2,a3,a4,a5⟩:=xq hg e2;have hx:o.2=((i:Int),(q:Int)):=by rw[e1]
  have dV:=(an.1 a5);obtain⟨L,a,c1,_⟩:=a1;have Qm:(iP g)[i]? =some (gq a):=by unfold iP;rw[br,c1];rfl
  have pT:(iP g).getD i []=gq a:=by rw[aA,Qm];rfl
  rw[pT]at a5 a2;refine⟨i,q,d,gq a,hx,Qm,a5,?_⟩;unfold kz dX;rw[br,br,ho,cW,cW,hx];show some ((i:Int),((iP g).getD (i:Int).toNat []).getD (q:Int).toNat 0)=_;rw[ay,ay,pT,a2]
set_option maxHeartbeats 4000000 in
theorem G1 {M:aD} {g:Gs} {bs:List Nat} {v0 v1:Value} {w0:World} (hM:Lt M w0) (hs:(((RT.se).ptr).sl).V M w0 (g.map fun p=>pq (fk p.1)) v0) (hb:(RT.JU.sl).V M w0 bs v1) (cM:kK M w0 g bs) (hg:H0 g) (hgl:g.length≤100) (Sv:∀p∈g,p.1.length≤10000) (Gc:∀p∈g,(keysOf p.1).length≤100000) (h0: ¬M 1) (GN:∃e fr,w0.heap[1]? =some (.cells (IC.map fun(k:Nat)=>Value.int .u8 (k:Int)).toArray e fr)):
  Spec Tryz.prog 22 #[v0,v1] w0 (fun v w=>Step M w0 M w aC∧((∃os E,Mg g os E∧∃s,v= .tuple #[s,.int .i64 0]∧cQ RT.se M w s (pq (fk E)))∨(El g∧v= .tuple #[.pointer none,.int .i64 5]))):=by
 have kR:=hM;obtain⟨etb,ftb,htb⟩:=GN;have mQ:(g.map fun p=>pq (fk p.1)).length=g.length:=aG ..;have arG:=cM.1;refine bm (args:=[_,_]) (fn:=Tryz.f22) Tryz.func22 rfl (n:=201) Tryz.ntmps22 ?_;have S:Step M w0 M w0 aC:=(ax _ _).cH (fun _ h=>h.elim) (fun _ h=>h.elim);refine aj (ae (ah rfl rfl (ah rfl rfl (ab (aj (aj (ae (ad rfl rfl (ad rfl rfl ?_)))))))));refine aY rfl rfl E56 (GS (ns:=g.map fun p=>p.1.length) w0 hs hb (by rw[cM.1,mQ]) (by rw[aG,mQ]) (fun i b n h1 h2=>?_)) (fun r1 w1 hc=>?_)
 ·rw[br]at h2
  cases mI:g[i]? with
  |none=>rw[mI]at h2;simp at h2
  |some p=>
   rw[mI]at h2;obtain rfl:p.1.length=n:=by simpa using h2
   obtain⟨ws,h3,_⟩:=cM.2 i b p h1 mI;rw[(hg p (az mI)).2]at h3;exact⟨ws,h3⟩
 obtain⟨rfl,e1⟩:=hc;obtain rfl:w0=w1:=e1.symm;refine aU (v':= .bool true) (congrArg Value.bool (decide_eq_true (by rw[sk];apply List.map_congr_left;intro p _;show(p.1.map _).length=_;rw[aG]))) (mO rfl rfl (aU (v':= .bool false) rfl (ab (jt rfl (aT (aj (ae (ah rfl rfl (ah rfl rfl (ab (aj ?_)))))))))));refine ae (ah rfl rfl (ab (aj (aj (ae (ad rfl rfl (bQ eT rfl hs rfl (aU (v':= .int .i64 (g.length:Int)) (by rw[mQ]) (ad rfl rfl (ab (aZ ?_)))))))))));refine dn (σ:=Nat×Value×Value×Value) (fun q=>[(0,v0),(1,v1),(4,.pointer none),(5,.int .i64 0),(6,q.2.2.1),(7,q.2.1),(8,q.2.2.2),(34,v0),(35,.int .i64 (g.length:Int)),(36,.int .i64 (q.1:Int))]) (fun q w=>q.1≤g.length∧∃M',Lt M' w∧Step M w0 M' w aC∧(((RT.se).ptr).sl).V M' w (g.map fun p=>pq (fk p.1)) v0∧(RT.JU.sl).V M' w bs v1∧kK M' w g bs∧Own ((RT.int .i64).sl) 37 M' w w0.heap.size q.2.1 ((iP g).take q.1)∧Own ((RT.int .i64).sl) 37 M' w w0.heap.size q.2.2.1 ((ky g).take q.1)∧Own (RT.str.sl) 57 M' w w0.heap.size q.2.2.2 ((g.map fun p=>keysOf p.1).take q.1)∧ie q.2.1 q.2.2.1) (fun q=>g.length-q.1) (0,.slice none 0 0,.slice none 0 0,.slice none 0 0) (.cons rfl (.cons rfl (.cons rfl (.cons rfl (.cons rfl (.cons rfl (.cons rfl (.cons rfl (.cons rfl (.cons rfl .nil)))))))))) ?_ ?_
 ·exact⟨bD _,_,hM,S,hs,hb,cM,dD _ _ _ _ _,dD _ _ _ _ _,dD _ _ _ _ _,ie.nil _⟩
 ·clear hM S hs hb cM;rintro⟨i,vl,vs,vk⟩ w ⟨hi,M1,hM,S,hs,hb,cM,fB,im,hok,uD⟩;dsimp only at hi fB im hok uD ⊢;refine aj (ae (cg rfl rfl rfl (ab (aj ?_))));refine bI rfl (fun c6=>?_) (fun c6=>?_)
  ·refine aT (aj (aZ (aj (ae (ad rfl rfl ?_)))));obtain⟨p,mI⟩:∃p,g[i]? =some p:=⟨_,ar (by omega)⟩;have Fc:=az mI;have IY:(g.map fun p=>pq (fk p.1))[i]? =some (pq (fk p.1)):=by rw[br,mI];rfl
   obtain⟨QG,rH⟩:=hg p Fc;have OF:=Sv p Fc;refine cF (M:=M1) eT J7 rfl rfl rfl hs (ao _ _) (by omega) (fun u7 x_ kA hu7=>?_);rw[ay]at kA;obtain rfl:=aH (IY.symm.trans kA);refine bR (M:=M1) jf rfl rfl rfl rfl rfl hu7 (ao _ _) (fun v7 Bz=>?_);have jT:=nf.1 Bz;obtain⟨a7,rfl⟩:=jT.ij;refine ah rfl rfl (ah rfl rfl (ab (aj (ae (ad rfl rfl (ad rfl rfl ?_))))));obtain⟨b8,Rf⟩:∃b,bs[i]? =some b:=⟨_,ar (by rw[cM.1];omega)⟩;have kE:=cM.1;refine cF (M:=M1) Tryz.underlying49 Qu rfl rfl rfl hb (ao _ _) (by omega) (fun u8 x_ kA hu8=>?_);rw[ay]at kA;obtain rfl:=aH (Rf.symm.trans kA);refine bR (M:=M1) Tryz.underlying47 rfl rfl rfl rfl rfl hu8 (ao _ _) (fun vb J2=>?_);obtain rfl:=Hn.1 J2;have aik:=S.aM htb;refine aY rfl rfl E57 (Es hM (cM.2 i b8 p Rf mI) (fun h=>h0 ((S.mem 1 (ak htb)).1 h)) ⟨etb,ftb,aik⟩) (fun r8 w8 hc=>?_);obtain⟨vI,s8⟩:=hc;replace hs:=hs.le s8.le;replace hb:=hb.le s8.le;replace cM:=cM.le s8.le;replace jT:=jT.le (by decide) s8.le;replace fB:=fB.aL s8;replace im:=im.aL s8;replace hok:=hok.aL s8;replace hM:=s8.lt hM;have:=S.size;replace S:=S.aB s8;refine ah rfl rfl (ab (aj (ae (ah rfl rfl (ab (aj (aj (ae (ad rfl rfl ?_)))))))));have ET:=vB p.2;refine bQ aq rfl vI rfl (ad rfl rfl (ab (aZ ?_)));refine dn (σ:=Nat×Value) (fun q=>[(0,v0),(1,v1),(4,.pointer none),(5,.int .i64 0),(6,vs),(7,vl),(8,vk),(34,v0),(35,.int .i64 (g.length:Int)),(36,.int .i64 (i:Int)),(9,.int .i64 (i:Int)),(10,.pointer (some a7)),(11,r8),(12,q.2),(46,r8),(47,.int .i64 ((gq p.2).length:Int)),(48,.int .i64 (q.1:Int))]) (fun q w=>q.1≤(gq p.2).length∧∃M',Lt M' w∧Step M w0 M' w aC∧(((RT.se).ptr).sl).V M' w (g.map fun p=>pq (fk p.1)) v0∧(RT.JU.sl).V M' w bs v1∧kK M' w g bs∧cQ RT.se M' w (.pointer (some a7)) (pq (fk p.1))∧((RT.int .i64).sl).V M' w (gq p.2) r8∧Own ((RT.int .i64).sl) 37 M' w w0.heap.size vl ((iP g).take i)∧Own ((RT.int .i64).sl) 37 M' w w0.heap.size vs ((ky g).take i)∧Own (RT.str.sl) 57 M' w w0.heap.size vk ((g.map fun p=>keysOf p.1).take i)∧Own (RT.int .i64) 3 M' w w0.heap.size q.2 (((gq p.2).take q.1).map (td p.1))) (fun q=>(gq p.2).length-q.1) (0,.slice none 0 0) (.cons rfl (.cons rfl (.cons rfl (.cons rfl (.cons rfl (.cons rfl (.cons rfl (.cons rfl (.cons rfl (.cons rfl (.cons rfl (.cons rfl (.cons rfl (.cons rfl (.cons rfl (.cons rfl (.cons rfl .nil))))))))))))))))) ?_ ?_
   ·exact⟨bD _,_,hM,S,hs,hb,cM,jT,vI,fB,im,hok,dD _ _ _ _ _⟩
   ·clear hM S hs hb cM jT vI fB im hok;rintro⟨k,vn⟩ w ⟨EZ,M2,hM,S,hs,hb,cM,jT,vI,fB,im,hok,zq⟩;dsimp only at EZ zq ⊢;refine aj (ae (cg rfl rfl rfl (ab (aj ?_))));refine bI rfl (fun Fy=>?_) (fun Fy=>?_)
    ·refine aT (aj (aZ (aj (ae ?_))));obtain⟨d,hk⟩:∃d,(gq p.2)[k]? =some d:=⟨_,ar (by omega)⟩;have hdm:=az hk;refine cF (M:=M2) aq I3 rfl rfl rfl vI (ao _ _) (by omega) (fun u12 x_ kA ail=>?_);rw[ay]at kA;obtain rfl:=aH (hk.symm.trans kA);refine bR (M:=M2) aw rfl rfl rfl rfl rfl ail (ao _ _) (fun v12 aim=>?_);obtain⟨rfl,_,_⟩:=xz.1 aim;refine ah rfl rfl (ab (ae (ad rfl rfl (ad rfl rfl (ad rfl rfl ?_)))));have OW:=(G0 jT).2 _ (N8 hdm rH);refine aY rfl rfl E58 (AS _ jT) (fun r13 w13 hc=>?_);obtain⟨rfl,rfl⟩:=hc;refine aU (v':= .int .i64 (td p.1 d)) (congrArg (Value.int .i64) (N7 hdm rH)) ?_;refine ep (A:=RT.int .i64) (hn:=by decide) (M:=M2) aq I3 (by decide) rfl rfl hM (fY (by omega)) (.inr ⟨rfl,rfl⟩) (fun fO LH kS eh=>?_);replace hs:=hs.le eh.le;replace hb:=hb.le eh.le;replace cM:=cM.le eh.le;replace jT:=jT.le (by decide) eh.le;replace vI:=vI.le eh.le;replace fB:=fB.aL eh;replace im:=im.aL eh;replace hok:=hok.aL eh;replace zq:=zq.aL eh;replace hM:=eh.lt hM;have:=S.size;replace S:=S.aB eh;refine dd (M:=M2) (base:=w0.heap.size) aq I3 rfl rfl rfl rfl zq kS (ao _ _) (by rw[aG,bg,cI];omega) (by rw[aG,bg,cI];omega) (S.size) (fun EH A2 aap G2 jA=>?_);replace hs:=hs.le jA.le;replace hb:=hb.le jA.le;replace cM:=cM.le jA.le;replace jT:=jT.le (by decide) jA.le;replace vI:=vI.le jA.le;replace kS:=kS.le jA.le;replace fB:=fB.step jA (fun b h1 h2=>fB.dz zq (by decide) h1 h2);replace im:=im.step jA (fun b h1 h2=>im.dz zq (by decide) h1 h2);replace hok:=hok.step jA (fun b h1 h2=>hok.dz zq (by decide) h1 h2)
     replace hM:=jA.lt hM;have:=S.size;replace S:=S.dg jA zq (aN _);replace zq:=G2;refine ah rfl rfl (ab (ae (bC rfl rfl rfl (by omega) (ad rfl rfl (ab ?_)))));refine⟨rfl,(k+1,EH),(.cons rfl (.cons rfl (.cons rfl (.cons rfl (.cons rfl (.cons rfl (.cons rfl (.cons rfl (.cons rfl (.cons rfl (.cons rfl (.cons rfl (.cons rfl (.cons rfl (.cons rfl (.cons rfl (.cons rfl .nil))))))))))))))))),?_,?_⟩
     ·exact⟨by dsimp only;omega,_,hM,S,hs,hb,cM,jT,vI,fB,im,hok,by dsimp only;rw[bV,hk,cE,cX];exact zq⟩
     ·dsimp only;omega
    ·refine cK (ae ?_);rw[aW (by omega)]at zq;refine ad rfl rfl (ad rfl rfl ?_);refine ep (A:=((RT.int .i64).sl)) (hn:=by decide) (M:=M2) cP kD (by decide) rfl rfl hM (vI) (.inr ⟨rfl,rfl⟩) (fun amn amo VT qK=>?_);replace hs:=hs.le qK.le;replace hb:=hb.le qK.le;replace cM:=cM.le qK.le;replace jT:=jT.le (by decide) qK.le;replace vI:=vI.le qK.le;replace fB:=fB.aL qK;replace im:=im.aL qK;replace hok:=hok.aL qK;replace zq:=zq.aL qK;replace hM:=qK.lt hM;have:=S.size;replace S:=S.aB qK;refine lN (M:=M2) (base:=w0.heap.size) cP kD rfl rfl rfl rfl fB VT (ao _ _) (by simp;omega) (by simp;omega) S.size (fun v15 w15 VU pU ain=>?_);generalize jv (M2) v15=M15 at VU pU;have Sw:ie v15 vs:=uD.grown ain (fun b hb=>(im.base b hb).2);replace im:=im.step pU (fun b hb h=>uD b h hb);replace hok:=hok.step pU (fun b h1 h2=>hok.dz fB (by decide) h1 h2);replace zq:=zq.step pU (fun b h1 h2=>zq.dz fB (by decide) h1 h2);replace hs:=hs.le pU.le;replace hb:=hb.le pU.le;replace cM:=cM.le pU.le;replace jT:=jT.le (by decide) pU.le;replace vI:=vI.le pU.le;replace S:=S.dg pU fB (aN _);replace hM:=pU.lt hM;replace fB:=VU;clear VU;refine ad rfl rfl (ad rfl rfl ?_);have rQ:=zq.view (hn:=by decide) (by rw[aG];omega);replace hs:=hs.le (eK _ vn _);replace hb:=hb.le (eK _ vn _);replace cM:=cM.le (eK _ vn _);replace jT:=jT.le (by decide) (eK _ vn _);replace vI:=vI.le (eK _ vn _);replace fB:=fB.Jy (v:=vn) (fun b hb=>by first|exact fB.dz zq (by decide) hb|exact VV b hb);replace im:=im.Jy (v:=vn) (fun b hb=>by first|exact im.dz zq (by decide) hb|exact Sx b hb);replace hok:=hok.Jy (v:=vn) (fun b hb=>by first|exact hok.dz zq (by decide) hb|exact VW b hb);replace hM:Lt (rm M15 vn) _:=fun b hb=>hM b hb.1
     replace S:=S.freeze (v:=vn) (fun b hb=>by have:=(zq.base b hb).1;omega);clear zq;refine ep (A:=((RT.int .i64).sl)) (hn:=by decide) (M:=rm M15 vn) cP kD (by decide) rfl rfl hM (rQ) (.inr ⟨rfl,rfl⟩) (fun NA ZH VX jz=>?_);replace hs:=hs.le jz.le;replace hb:=hb.le jz.le;replace cM:=cM.le jz.le;replace jT:=jT.le (by decide) jz.le;replace vI:=vI.le jz.le;replace rQ:=rQ.le jz.le;replace fB:=fB.aL jz;replace im:=im.aL jz;replace hok:=hok.aL jz;replace hM:=jz.lt hM;have:=S.size;replace S:=S.aB jz;refine lN (M:=rm M15 vn) (base:=w0.heap.size) cP kD rfl rfl rfl rfl im VX (ao _ _) (by simp;omega) (by simp;omega) S.size (fun v157 aio Oa zW aaq=>?_);generalize jv (rm M15 vn) v157=VY at Oa zW;have VZ:ie v157 v15:=Sw.symm.grown aaq (fun b hb=>(fB.base b hb).2);replace fB:=fB.step zW (fun b hb h=>Sw.symm b h hb);replace hok:=hok.step zW (fun b h1 h2=>hok.dz im (by decide) h1 h2);replace hs:=hs.le zW.le;replace hb:=hb.le zW.le;replace cM:=cM.le zW.le;replace jT:=jT.le (by decide) zW.le;replace vI:=vI.le zW.le;replace S:=S.dg zW im (aN _);replace hM:=zW.lt hM;replace im:=Oa;clear Oa;refine ad rfl rfl (ad rfl rfl ?_);refine aY rfl rfl E38 (Gy _ hM (by show _=(((fk p.1).2.2.2).map mR).length;rw[aG];show _=((keysOf p.1).map _).length;rw[aG];rfl) (by have:=Gc p Fc;show(keysOf p.1).length≤_;omega) jT) (fun amp amq hc=>?_);obtain⟨V0,rW⟩:=hc;replace hs:=hs.le rW.le;replace hb:=hb.le rW.le;replace cM:=cM.le rW.le;replace jT:=jT.le (by decide) rW.le;replace vI:=vI.le rW.le;replace fB:=fB.aL rW;replace im:=im.aL rW;replace hok:=hok.aL rW;replace hM:=rW.lt hM;have:=S.size;replace S:=S.aB rW;refine ep (A:=(RT.str.sl)) (hn:=by decide) (M:=VY) Tryz.underlying120 zn (by decide) rfl rfl hM (V0) (.inr ⟨rfl,rfl⟩) (fun aip aiq QH mJ=>?_)
     replace hs:=hs.le mJ.le;replace hb:=hb.le mJ.le;replace cM:=cM.le mJ.le;replace jT:=jT.le (by decide) mJ.le;replace vI:=vI.le mJ.le;replace V0:=V0.le mJ.le;replace fB:=fB.aL mJ;replace im:=im.aL mJ;replace hok:=hok.aL mJ;replace hM:=mJ.lt hM;have:=S.size;replace S:=S.aB mJ;refine lN (M:=VY) (base:=w0.heap.size) Tryz.underlying120 zn rfl rfl rfl rfl hok QH (ao _ _) (by simp;omega) (by simp;omega) S.size (fun Sy amr G3 rX air=>?_);generalize jv (VY) Sy=ams at G3 rX;replace fB:=fB.step rX (fun b h1 h2=>fB.dz hok (by decide) h1 h2);replace im:=im.step rX (fun b h1 h2=>im.dz hok (by decide) h1 h2);replace hs:=hs.le rX.le;replace hb:=hb.le rX.le;replace cM:=cM.le rX.le;replace jT:=jT.le (by decide) rX.le;replace vI:=vI.le rX.le;replace S:=S.dg rX hok (aN _);replace hM:=rX.lt hM;replace hok:=G3;clear G3;refine ah rfl rfl (ah rfl rfl (ah rfl rfl (ab (ae (bC rfl rfl rfl (by omega) (ad rfl rfl (ab ?_)))))));refine⟨rfl,(i+1,v15,v157,Sy),(.cons rfl (.cons rfl (.cons rfl (.cons rfl (.cons rfl (.cons rfl (.cons rfl (.cons rfl (.cons rfl (.cons rfl .nil)))))))))),?_,?_⟩
     ·refine⟨by dsimp only;omega,_,hM,S,hs,hb,cM,?_,?_,?_,VZ.symm⟩
      ·dsimp only;rw[bV,show(iP g)[i]? =some (gq p.2)from by unfold iP;rw[br,mI];rfl];exact fB
      ·dsimp only;rw[bV,show(ky g)[i]? =some ((gq p.2).map (td p.1))from by unfold ky;rw[br,mI];rfl];exact im
      ·dsimp only;rw[bV,br,mI];exact hok
     ·dsimp only;omega
  ·refine cK (aj (ae ?_));rw[aW (by unfold iP;rw[aG];omega)]at fB;rw[aW (by unfold ky;rw[aG];omega)]at im;rw[aW (by rw[aG];omega)]at hok;have EI:=uD.symm;refine ad rfl rfl ?_;have jV:=fB.view (hn:=by decide) (by unfold iP;rw[aG];omega);replace hs:=hs.le (eK _ vl _);replace hb:=hb.le (eK _ vl _);replace cM:=cM.le (eK _ vl _);replace im:=im.Jy (v:=vl) (fun b hb=>by first|exact im.dz fB (by decide) hb|exact EI b hb);replace hok:=hok.Jy (v:=vl) (fun b hb=>by first|exact hok.dz fB (by decide) hb|exact V1 b hb);replace hM:Lt (rm M1 vl) _:=fun b hb=>hM b hb.1
   replace S:=S.freeze (v:=vl) (fun b hb=>by have:=(fB.base b hb).1;omega);clear fB;have jS:=im.view (hn:=by decide) (by unfold ky;rw[aG];omega);replace hs:=hs.le (eK _ vs _);replace hb:=hb.le (eK _ vs _);replace cM:=cM.le (eK _ vs _);replace jV:=jV.le (eK _ vs _);replace hok:=hok.Jy (v:=vs) (fun b hb=>by first|exact hok.dz im (by decide) hb|exact Sz b hb);replace hM:Lt (rm (rm M1 vl) vs) _:=fun b hb=>hM b hb.1
   replace S:=S.freeze (v:=vs) (fun b hb=>by have:=(im.base b hb).1;omega);clear im;have jF:=hok.view (hn:=by decide) (by rw[aG];omega);replace hs:=hs.le (eK _ vk _);replace hb:=hb.le (eK _ vk _);replace cM:=cM.le (eK _ vk _);replace jV:=jV.le (eK _ vk _);replace jS:=jS.le (eK _ vk _);replace hM:Lt (rm (rm (rm M1 vl) vs) vk) _:=fun b hb=>hM b hb.1
   replace S:=S.freeze (v:=vk) (fun b hb=>by have:=(hok.base b hb).1;omega);clear hok
   have aar:∀l∈ky g,l.length≤10000:=fun l hl=>by
    obtain⟨p,hp,rfl⟩:=bP.1 hl;rw[aG];have:=vB p.2;have:=Sv p hp;have:=(hg p hp).2;omega
   have arH:(ky g).length=g.length:=by unfold ky;rw[aG]
   refine aY rfl rfl E59 (y9 hM jS (by omega) (fun l hl=>by have:=aar l hl;omega) (by have:=QE aar;have:10000*(ky g).length≤10000*1000:=zi _ (by omega);omega)) (fun r17 w17 hc=>?_);obtain⟨M17,arJ,J3,vo,RW,rfl,QI⟩:=hc;replace hs:=hs.le J3.le;replace hb:=hb.le J3.le;replace cM:=cM.le J3.le;replace jV:=jV.le J3.le;replace jS:=jS.le J3.le;replace jF:=jF.le J3.le;replace hM:=J3.lt hM;have:=S.size;replace S:=S.aB J3;refine ad rfl rfl (bZ rfl rfl rfl (bZ rfl rfl rfl (ah rfl rfl (ah rfl rfl (ab (aj (aj (ae (ad rfl rfl (fD rfl rfl rfl (ab ?_)))))))))));refine bI rfl (fun c18=>?_) (fun c18=>?_)
   ·have kf:El g:=by
     rcases QI with⟨h1,_,_⟩|⟨_,r,hr,h|⟨out,_,rfl,_⟩⟩
     ·exact absurd (B5 hg) h1
     ·rw[h.1]at hr;exact N9 hg hr
     ·exact absurd rfl c18
    obtain⟨rfl,rfl⟩:RW=5∧vo= .slice none 0 0:=by
     rcases QI with⟨h1,_,_⟩|⟨_,r,hr,h|⟨out,_,rfl,_⟩⟩
     ·exact absurd (B5 hg) h1
     ·exact h.2
     ·exact absurd rfl c18
    refine aj (ae (ad rfl rfl (ah rfl rfl (ah rfl rfl (ab (aQ ?_))))));exact fm rfl rfl rfl ⟨S.back,.inr ⟨kf,rfl⟩⟩
   ·obtain⟨out,aas,rfl,amt,ho⟩:∃out,rz (ky g) (some out)∧RW=0∧(dX out).length≤1099511627776∧Own RT.fo 124 M17 w17 w.heap.size vo (dX out):=by
     rcases QI with⟨h1,_,_⟩|⟨_,r,hr,h|⟨out,h1,h2,h3,h4⟩⟩
     ·exact absurd (B5 hg) h1
     ·exact absurd (by rw[h.2.1];decide) c18
     ·exact⟨out,h1▸hr,h2,h3,h4⟩
    clear QI;have EV:=ZM hg aas;have V2:(kz g (dX out)).length=(dX out).length:=by unfold kz;rw[aG]
    have hwz:=S.size
    have hEl:((kz g (dX out)).map (iJ g)).length≤1000000:=by
     have h1:=EV.VR Sv;rw[aG];have:g.length*10000≤100*10000:=gr _ hgl;omega
    refine aT (aj (aj (ae (ad rfl rfl (fE eX rfl ho rfl (ad rfl rfl (ab (aZ ?_))))))));refine dn (σ:=Nat) (fun k=>[(0,v0),(7,vl),(8,vk),(15,vo),(81,vo),(82,.int .i64 ((dX out).length:Int)),(83,.int .i64 (k:Int))]) (fun k w=>k≤(dX out).length∧∃M',Lt M' w∧Step M w0 M' w aC∧(((RT.se).ptr).sl).V M' w (g.map fun p=>pq (fk p.1)) v0∧(RT.JU.sl).V M' w bs v1∧kK M' w g bs∧(((RT.int .i64).sl).sl).V M' w (iP g) vl∧(RT.str.sl.sl).V M' w (g.map fun p=>keysOf p.1) vk∧Own RT.fo 124 M' w w0.heap.size vo ((kz g (dX out)).take k++(dX out).drop k)) (fun k=>(dX out).length-k) 0 (.cons rfl (.cons rfl (.cons rfl (.cons rfl (.cons rfl (.cons rfl (.cons rfl .nil))))))) ?_ ?_
    ·exact⟨bD _,_,hM,S,hs,hb,cM,jV,jF,by rw[List.take_zero,fQ,List.drop_zero];exact ho.oL (by omega)⟩
    ·clear hM S hs hb cM jV jF ho jS;rintro k w ⟨hk,M2,hM,S,hs,hb,cM,jV,jF,ho⟩;have jU:=fun b hb=>(ho.base b hb).2
     refine aj (ae (cg rfl rfl rfl (ab (aj ?_))));refine bI rfl (fun c21=>?_) (fun c21=>?_)
     ·refine aT (aj (aZ (aj (ae (ad rfl rfl ?_)))));obtain⟨x,hxk⟩:∃x,(dX out)[k]? =some x:=⟨_,ar (by omega)⟩;obtain⟨i,q,d,t,rfl,A6,htq,ais⟩:=VS hg aas hxk;have qd:((kz g (dX out)).take k++(dX out).drop k).length=(dX out).length:=by rw[bc,bg,dh,V2];omega
      have hxx:((kz g (dX out)).take k++(dX out).drop k)[k]? =some ((i:Int),(q:Int)):=by rw[jB (by rw[bg];omega),bg,qa (by omega),Nat.sub_self,List.getElem?_drop];exact hxk
      obtain⟨go,gc,arL,fx,hgb,hgM,XW⟩:=ho.uR (ho.BR (by omega));rw[qd]at fx;subst fx;refine vQ (size:=2) eX kx rfl rfl rfl (by omega) (q:=k*2) (by omega) ?_;refine cN (M:=fun b=>M2 b∧b≠go) (A:=RT.fo) cy rfl kx (by decide) rfl rfl rfl (ho.ptr hxx) (ao _ _) (fun v22 aiu=>?_);obtain⟨rfl,ra,rb⟩:=qW aiu;refine eE M2 kx rfl (fun H8 aau amv amw qL ur=>?_);obtain⟨qM,H9⟩:∃M',M'=ins M2 H8:=⟨_,rfl⟩;rw[←H9]at ur;have qY:qM H8:=by rw[H9];exact .inl rfl
      change aau.heap[H8]? =some (.cells #[.int .i64 0,.int .i64 0] _ _)at qL;replace hs:=hs.le ur.le;replace hb:=hb.le ur.le;replace cM:=cM.le ur.le;replace jV:=jV.le ur.le;replace jF:=jF.le ur.le;replace ho:=ho.aL ur;replace hM:=ur.lt hM;have:=S.size;replace S:=S.aB ur;refine ah rfl rfl ?_;refine eG (M:=qM) (vs:=[.int .i64 (i:Int),.int .i64 (q:Int)]) kx rfl rfl (by intro u hu;simp only[cb,eI,or_false]at hu;rcases hu with rfl|rfl<;>rfl) rfl rfl qL qY (fun ws gs ss=>?_);have:=ak qL;replace qY:=(ss.mem _ this).2 qY;replace hs:=hs.le ss.le;replace hb:=hb.le ss.le;replace cM:=cM.le ss.le;replace jV:=jV.le ss.le;replace jF:=jF.le ss.le;replace ho:=ho.step ss (fun b hb hk=>by have hk:b=H8:=hk;have:=jU b hb;omega);replace hM:=ss.lt hM;have:=S.size;replace S:=S.trans ss (fun k hk h=>by have h:_=_:=h;subst h;first|(exfalso;omega)|(show _≤_;omega)|exact⟨by first|omega|assumption,(S.mem _ hk).1 ((ss.mem _ (ak qL)).1 qY)⟩|exact .inl rfl|exact .inr rfl|exact .inr (.inl rfl)|exact .inr (.inr rfl)|exact .inr (.inr (.inl rfl))|exact rfl);have Ob:=gs;clear qL;have qL:=Ob;clear Ob;refine ab ?_;apply T.Kr 13 mixed rfl rfl rfl rfl rfl;intro arM aiv;have zX:=aiv qM;have:=ak qL;replace qY:=(zX.mem _ this).2 qY;replace qL:=zX.aM qL;replace hs:=hs.le zX.le;replace hb:=hb.le zX.le;replace cM:=cM.le zX.le;replace jV:=jV.le zX.le;replace jF:=jF.le zX.le;replace ho:=ho.aL zX;replace hM:=zX.lt hM;have:=S.size;replace S:=S.aB zX;refine ad rfl rfl ?_;refine ab ⟨rfl,rfl,rfl,?_⟩;refine ad rfl rfl ?_;refine ab ⟨rfl,rfl,rfl,?_⟩;refine ad rfl rfl ?_;refine ab ⟨rfl,rfl,rfl,?_⟩;refine xh (len:=2) cy I3 rfl rfl rfl (by omega) ?_;refine ab ⟨rfl,rfl,rfl,?_⟩;refine aP aw rfl rfl rfl qL rfl (aU (v':= .int .i64 (i:Int)) rfl ?_)
      refine ab ⟨rfl,rfl,rfl,?_⟩;have Ik:(iP g).length=g.length:=by unfold iP;rw[aG]
      have oN:=(an.1 A6).1;refine cF (M:=qM) cP kD rfl rfl rfl jV (ao _ _) (by omega) (fun u23 x_ kA aiw=>?_);rw[ay]at kA;obtain rfl:=aH (A6.symm.trans kA);refine ab ⟨rfl,rfl,rfl,?_⟩;refine bR (M:=qM) aq rfl rfl rfl rfl rfl aiw (ao _ _) (fun v23 aix=>?_);refine ab ⟨rfl,rfl,rfl,?_⟩;refine xh (len:=2) cy I3 rfl rfl rfl (by omega) ?_;refine ab ⟨rfl,rfl,rfl,?_⟩;refine aP aw rfl rfl rfl qL rfl (aU (v':= .int .i64 (q:Int)) rfl ?_);refine ab ⟨rfl,rfl,rfl,?_⟩;have hql:=(an.1 htq).1;refine cF (M:=qM) aq I3 rfl rfl rfl aix (ao _ _) (by omega) (fun arN x_ kA aav=>?_);rw[ay]at kA;obtain rfl:=aH (htq.symm.trans kA);refine ab ⟨rfl,rfl,rfl,?_⟩;refine bR (M:=qM) aw rfl rfl rfl rfl rfl aav (ao _ _) (fun amx V3=>?_);obtain⟨rfl,hrd⟩:=xz.1 V3;refine ab ⟨rfl,rfl,rfl,?_⟩;refine vQ (size:=2) eX kx rfl rfl rfl (by omega) (q:=k*2) (by omega) ?_;refine ab ⟨rfl,rfl,rfl,?_⟩;refine Rg.Qt (o:=k*2) (len:=2) cy I3 rfl rfl rfl (by omega) ?_;refine ab ⟨rfl,rfl,rfl,?_⟩;refine eZ ?_;obtain⟨cur,Eg,Ql,hfo,SO,⟨u0,dw,Q0⟩,aaw⟩:=ho.ZS hxx;refine cw (M:=qM) I3 rfl rfl Eg dw rfl Ql (fun amy aax wI=>?_);have gy:=aaw _ _ _ hrd aax ((wI.mem _ (ak Eg)).2 Ql);replace hs:=hs.le wI.le;replace hb:=hb.le wI.le;replace cM:=cM.le wI.le;replace jV:=jV.le wI.le;replace jF:=jF.le wI.le;replace S:=S.cj wI (fun b hb=>by have hb:b=go:=hb;omega);replace hM:=wI.lt hM;replace ho:=gy;clear gy;refine ab (ae (bC rfl rfl rfl (by omega) (ad rfl rfl (ab ?_))));refine⟨rfl,k+1,(.cons rfl (.cons rfl (.cons rfl (.cons rfl (.cons rfl (.cons rfl (.cons rfl .nil))))))),?_,?_⟩
      ·refine⟨by omega,_,hM,S,hs,hb,cM,jV,jF,?_⟩;rw[QF V2 hxx ais]at ho;exact ho
      ·omega
     ·refine cK (aj (ae ?_));refine eE M2 OD rfl (fun fu aay amz amA Oc uu=>?_);obtain⟨G4,Ia⟩:∃M',M'=ins M2 fu:=⟨_,rfl⟩;rw[←Ia]at uu;have B7:G4 fu:=by rw[Ia];exact .inl rfl
      change aay.heap[fu]? =some (.cells #[.slice none 0 0,.slice none 0 0,.slice none 0 0,.slice none 0 0] _ _)at Oc;replace hs:=hs.le uu.le;replace hb:=hb.le uu.le;replace cM:=cM.le uu.le;replace jV:=jV.le uu.le;replace jF:=jF.le uu.le;replace ho:=ho.aL uu;replace hM:=uu.lt hM;have:=S.size;replace S:=S.aB uu;refine ab (aj (aj (ae ?_)));have aiy:(kz g (dX out)).take k++(dX out).drop k=(kz g (dX out)):=by rw[aW (by omega),gM (by omega),ia]
      rw[aiy]at ho;refine ad rfl rfl ?_;have fx:=ho.view (hn:=by decide) (by rw[V2];omega);replace B7:rm G4 vo _:=⟨B7,by first|exact ho.eO Oc (by decide)|(intro h;have:=(ho.base _ h).1;omega)⟩;replace hs:=hs.le (eK _ vo _);replace hb:=hb.le (eK _ vo _);replace cM:=cM.le (eK _ vo _);replace jV:=jV.le (eK _ vo _);replace jF:=jF.le (eK _ vo _);replace hM:Lt (rm G4 vo) _:=fun b hb=>hM b hb.1
      replace S:=S.freeze (v:=vo) (fun b hb=>by have:=(ho.base b hb).1;omega);clear ho;refine bQ eX rfl fx rfl (ad rfl rfl (ab (aZ ?_)));refine dn (σ:=Nat×Value×Value) (fun q=>[(0,v0),(8,vk),(15,vo),(19,.pointer (some ⟨fu,0,none⟩)),(102,vo),(103,.int .i64 ((kz g (dX out)).length:Int)),(104,.int .i64 (q.1:Int))]) (fun q w=>q.1≤(kz g (dX out)).length∧∃M',Lt M' w∧Step M w0 M' w aC∧(((RT.se).ptr).sl).V M' w (g.map fun p=>pq (fk p.1)) v0∧(RT.JU.sl).V M' w bs v1∧kK M' w g bs∧(RT.str.sl.sl).V M' w (g.map fun p=>keysOf p.1) vk∧(RT.fo.sl).V M' w (kz g (dX out)) vo∧w.heap[fu]? =some (.cells #[q.2.1,q.2.2,.slice none 0 0,.slice none 0 0] 72 (0,0))∧M' fu∧Own (RT.int .i64) 3 M' w w0.heap.size q.2.1 ((((kz g (dX out)).map (iJ g)).take q.1).map (·.1.1))∧Own (RT.int .i64) 3 M' w w0.heap.size q.2.2 ((((kz g (dX out)).map (iJ g)).take q.1).map (·.2))∧ie q.2.1 q.2.2) (fun q=>(kz g (dX out)).length-q.1) (0,.slice none 0 0,.slice none 0 0) (.cons rfl (.cons rfl (.cons rfl (.cons rfl (.cons rfl (.cons rfl (.cons rfl .nil))))))) ?_ ?_
      ·exact⟨bD _,_,hM,S,hs,hb,cM,jF,fx,Oc,B7,dD _ _ _ _ _,dD _ _ _ _ _,ie.nil _⟩
      ·clear hM S hs hb cM jV jF fx;rintro⟨k,vi,vq⟩ w ⟨hk,M3,hM,S,hs,hb,cM,jF,fx,gp,eL,eU,gP,uD⟩;dsimp only at hk gp eU gP uD ⊢;have hbz:=ak gp;have uv:=fun b hb=>(eU.base b hb).2
       have uw:=fun b hb=>(gP.base b hb).2
       refine aj (ae (cg rfl rfl rfl (ab (aj ?_))));refine bI rfl (fun c27=>?_) (fun c27=>?_)
       ·refine aT (aj (aZ (aj (ae ?_))));obtain⟨x,hxk⟩:∃x,(kz g (dX out))[k]? =some x:=⟨_,ar (by omega)⟩;obtain⟨i,d,e,rfl,hek,L,a,mI,hld,had⟩:=EV.at_ k x hxk;have IY:(g.map fun p=>pq (fk p.1))[i]? =some (pq (fk L)):=by rw[br,mI];rfl
        have oN:=(an.1 mI).1;refine cF (M:=M3) eX kx rfl rfl rfl fx (ao _ _) (by omega) (fun u28 x_ kA aiz=>?_);rw[ay]at kA;obtain rfl:=aH (hxk.symm.trans kA);refine cN (M:=M3) (A:=RT.fo) cy rfl kx (by decide) rfl rfl rfl aiz (ao _ _) (fun v28 aiA=>?_);obtain⟨rfl,ra,rb⟩:=qW aiA;refine eE M3 kx rfl (fun uy aaz amC amD fI pR=>?_);obtain⟨nC,Ib⟩:∃M',M'=ins M3 uy:=⟨_,rfl⟩;rw[←Ib]at pR;have gI:nC uy:=by rw[Ib];exact .inl rfl
        change aaz.heap[uy]? =some (.cells #[.int .i64 0,.int .i64 0] _ _)at fI;have:=ak gp;replace eL:=(pR.mem _ this).2 eL;replace gp:=pR.aM gp;replace hs:=hs.le pR.le;replace hb:=hb.le pR.le;replace cM:=cM.le pR.le;replace jF:=jF.le pR.le;replace fx:=fx.le pR.le;replace eU:=eU.aL pR;replace gP:=gP.aL pR;replace hM:=pR.lt hM;have:=S.size;replace S:=S.aB pR;refine eG (M:=nC) (vs:=[.int .i64 (i:Int),.int .i64 (d:Int)]) kx rfl rfl (by intro u hu;simp only[cb,eI,or_false]at hu;rcases hu with rfl|rfl<;>rfl) rfl rfl fI gI (fun ws gs ss=>?_);have:=ak gp;replace eL:=(ss.mem _ this).2 eL;replace gp:=ss.keep gp (fun hk=>by have hk:_=_:=hk;omega);have:=ak fI;replace gI:=(ss.mem _ this).2 gI;replace hs:=hs.le ss.le;replace hb:=hb.le ss.le;replace cM:=cM.le ss.le;replace jF:=jF.le ss.le;replace fx:=fx.le ss.le;replace eU:=eU.step ss (fun c hc h=>by first|exact eU.eO gp (by decide) ((show c=fu from h)▸hc)|(have h:c=uy:=h;have:=uv c hc;omega));replace gP:=gP.step ss (fun c hc h=>by first|exact gP.eO gp (by decide) ((show c=fu from h)▸hc)|(have h:c=uy:=h;have:=uw c hc;omega));replace hM:=ss.lt hM;have:=S.size;replace S:=S.trans ss (fun k hk h=>by have h:_=_:=h;subst h;first|(exfalso;omega)|(show _≤_;omega)|exact⟨by first|omega|assumption,(S.mem _ hk).1 ((ss.mem _ (ak fI)).1 gI)⟩|exact .inl rfl|exact .inr rfl|exact .inr (.inl rfl)|exact .inr (.inr rfl)|exact .inr (.inr (.inl rfl))|exact rfl);have Od:=gs;clear fI;have fI:=Od;clear Od;refine ab ?_;apply T.VQ 24 [0,1,2,3,4,5,6,7,8,12,13,14,15,16,17,18,19,20,24,9,10,11,21,22,23,25,26,27] 19 [0,1,9,10,11,12,13,14,15,16,17,18] 6 (fun b=>fK vi b∨fK vq b) mixed
        ·simp+decide only[loose,zc,xK,sy,dQ,jd,iZ,ja,fa,cW,hY,qc,cond_true,cond_false,Nat.reduceBEq,Nat.reduceAdd,beq_self_eq_true];rfl
        ·rfl
        ·rfl
        ·rfl
        ·rfl
        ·rfl
        ·rfl
        ·rfl
        intro aiB aiC;have vJ:=aiC nC;have:=ak gp;replace eL:=(vJ.mem _ this).2 eL;replace gp:=vJ.aM gp;have:=ak fI;replace gI:=(vJ.mem _ this).2 gI;replace fI:=vJ.aM fI;replace hs:=hs.le vJ.le;replace hb:=hb.le vJ.le;replace cM:=cM.le vJ.le;replace jF:=jF.le vJ.le;replace fx:=fx.le vJ.le;replace eU:=eU.aL vJ;replace gP:=gP.aL vJ;replace hM:=vJ.lt hM;have:=S.size;replace S:=S.aB vJ;refine bK (o':=0) bY rfl rfl kD (by decide) rfl rfl ?_;refine ab ⟨rfl,rfl,rfl,?_⟩;refine aP aq rfl rfl rfl gp rfl (aU (v':=vi) rfl ?_);refine ab ⟨rfl,rfl,rfl,?_⟩;refine ad rfl rfl ?_;refine ab ⟨rfl,rfl,rfl,?_⟩;refine xh (len:=2) cy I3 rfl rfl rfl (by omega) ?_;refine ab ⟨rfl,rfl,rfl,?_⟩;refine aP aw rfl rfl rfl fI rfl (aU (v':= .int .i64 (i:Int)) rfl ?_);refine ab ⟨rfl,rfl,rfl,?_⟩;refine cF (M:=nC) eT J7 rfl rfl rfl hs (ao _ _) (by omega) (fun arQ x_ kA aaA=>?_);rw[ay]at kA;obtain rfl:=aH (IY.symm.trans kA);refine ab ⟨rfl,rfl,rfl,?_⟩;refine bR (M:=nC) jf rfl rfl rfl rfl rfl aaA (ao _ _) (fun arR aaB=>?_);have EJ:=nf.1 aaB;obtain⟨arS,rfl⟩:=EJ.ij;refine ab ⟨rfl,rfl,rfl,?_⟩;refine xh (len:=2) cy I3 rfl rfl rfl (by omega) ?_;refine ab ⟨rfl,rfl,rfl,?_⟩;refine aP aw rfl rfl rfl fI rfl (aU (v':= .int .i64 (d:Int)) rfl ?_);refine ab ⟨rfl,rfl,rfl,?_⟩;refine bK (o':=1) bY rfl rfl kD (by decide) rfl rfl ?_;refine ab ⟨rfl,rfl,rfl,?_⟩;refine aP aq rfl rfl rfl gp rfl (aU (v':=vq) rfl ?_);refine ab ⟨rfl,rfl,rfl,?_⟩;refine ad rfl rfl ?_;refine ab ⟨rfl,rfl,rfl,?_⟩;refine xh (len:=2) cy I3 rfl rfl rfl (by omega) ?_;refine ab ⟨rfl,rfl,rfl,?_⟩
        refine aP aw rfl rfl rfl fI rfl (aU (v':= .int .i64 (i:Int)) rfl ?_);refine ab ⟨rfl,rfl,rfl,?_⟩;refine cF (M:=nC) eT J7 rfl rfl rfl hs (ao _ _) (by omega) (fun amE x_ kA Oe=>?_);rw[ay]at kA;obtain rfl:=aH (IY.symm.trans kA);refine ab ⟨rfl,rfl,rfl,?_⟩;refine bR (M:=nC) jf rfl rfl rfl rfl rfl Oe (ao _ _) (fun amF V4=>?_);have pz:=nf.1 V4;obtain⟨amG,rfl⟩:=pz.ij;refine ab ⟨rfl,rfl,rfl,?_⟩;refine xh (len:=2) cy I3 rfl rfl rfl (by omega) ?_;refine ab ⟨rfl,rfl,rfl,?_⟩;refine aP aw rfl rfl rfl fI rfl (aU (v':= .int .i64 (d:Int)) rfl ?_);refine ab ⟨rfl,rfl,rfl,?_⟩;refine bK (o':=0) bY rfl rfl kD (by decide) rfl rfl ?_;refine ab ⟨rfl,rfl,rfl,?_⟩;refine eZ ?_;obtain⟨bb,oo,cs_,ee_,fr_,rfl,lp,hnM⟩:=Oe.float;refine⟨iA ⟨je bY rfl kD (by decide),⟨eF rfl gp (fun h=>h.elim (eU.eO gp (by decide)) (gP.eO gp (by decide))),⟨je bY rfl kD (by decide),⟨eF rfl gp (fun h=>h.elim (eU.eO gp (by decide)) (gP.eO gp (by decide))),⟨eS,⟨bX.idx,⟨eF rfl fI (fun h=>h.elim (fun h=>by have:=uv _ h;omega) (fun h=>by have:=uw _ h;omega)),⟨bX.idx,⟨eF rfl lp (fun h=>hnM (h.elim (eU.mut_ _) (gP.mut_ _))),⟨bX.idx,⟨eF rfl fI (fun h=>h.elim (fun h=>by have:=uv _ h;omega) (fun h=>by have:=uw _ h;omega)),⟨je bY rfl kD (by decide),trivial⟩⟩⟩⟩⟩⟩⟩⟩⟩⟩⟩⟩,?_⟩;have kp:=jG (fun b=>fK vi b∨fK vq b) aiB;have aiD:=(G0 EJ).1;refine aY rfl rfl E60 (No _ EJ) (fun arW arX hc=>?_);obtain⟨rfl,rfl⟩:=hc;refine aU (v':= .int .i64 e.1.1) (congrArg (Value.int .i64) (Nn (by show(L.map _)[d]? =_;rw[br,hld];rfl))) ?_;refine(fun(kp:eN _ _ _)=>ab ⟨rfl,rfl,fun _=>kp,?_⟩) (by first|exact kp|exact kp.rF (by assumption)|exact kp.goN (by assumption)|exact kp.go (by assumption) (fun _ _ h=>by first|exact h|exact h.elim))
        refine ep (A:=RT.int .i64) (hn:=by decide) (M:=nC) aq I3 (by decide) rfl rfl hM (fY (aiD _ (by show _∈L.map _;exact bP.2 ⟨e,az hld,rfl⟩))) (.inr ⟨rfl,rfl⟩) (fun aiE aiF QK j0=>?_);have:=ak gp;replace eL:=(j0.mem _ this).2 eL;replace gp:=j0.aM gp;have:=ak fI;replace gI:=(j0.mem _ this).2 gI;replace fI:=j0.aM fI;replace hs:=hs.le j0.le;replace hb:=hb.le j0.le;replace cM:=cM.le j0.le;replace jF:=jF.le j0.le;replace fx:=fx.le j0.le;replace EJ:=EJ.le (by decide) j0.le;replace pz:=pz.le (by decide) j0.le;replace eU:=eU.aL j0;replace gP:=gP.aL j0;replace hM:=j0.lt hM;have:=S.size;replace S:=S.aB j0;refine(fun(kp:eN _ _ _)=>ab ⟨rfl,rfl,fun _=>kp,?_⟩) (by first|exact kp|exact kp.rF (by assumption)|exact kp.goN (by assumption)|exact kp.go (by assumption) (fun _ _ h=>by first|exact h|exact h.elim));refine lN (M:=nC) (base:=w0.heap.size) aq I3 rfl rfl rfl rfl eU QK (ao _ _) (by simp;omega) (by simp;omega) S.size (fun A3 amI G5 mK V5=>?_);generalize jv (nC) A3=Of at G5 mK;have Ic:ie A3 vq:=uD.grown V5 (fun b hb=>(gP.base b hb).2);replace gP:=gP.step mK (fun b hb h=>uD b h hb);replace eL:=(mK.mem _ (ak gp)).2 eL;replace gp:=mK.keep gp (fun h=>by first|exact eU.eO gp (by decide) h|(have:=(eU.base _ h).2;omega));replace gI:=(mK.mem _ (ak fI)).2 gI;replace fI:=mK.keep fI (fun h=>by first|exact eU.eO fI (by decide) h|(have:=(eU.base _ h).2;omega));replace hs:=hs.le mK.le;replace hb:=hb.le mK.le;replace cM:=cM.le mK.le;replace jF:=jF.le mK.le;replace fx:=fx.le mK.le;replace pz:=pz.le (by decide) mK.le;replace S:=S.dg mK eU (aN _);replace hM:=mK.lt hM;replace eU:=G5
        clear G5;refine(fun(kp:eN _ _ _)=>ab ⟨rfl,rfl,fun _=>kp,?_⟩) (kp.go mK (fun b hb h=> .inl h));have aiG:=(G0 pz).2;refine aY rfl rfl E58 (AS _ pz) (fun amJ amK hc=>?_);obtain⟨rfl,rfl⟩:=hc;refine aU (v':= .int .i64 e.2) (congrArg (Value.int .i64) (Nn (by show(L.map _)[d]? =_;rw[br,hld];rfl))) ?_;refine(fun(kp:eN _ _ _)=>ab ⟨rfl,rfl,fun _=>kp,?_⟩) (by first|exact kp|exact kp.rF (by assumption)|exact kp.goN (by assumption)|exact kp.go (by assumption) (fun _ _ h=>by first|exact h|exact h.elim));refine ep (A:=RT.int .i64) (hn:=by decide) (M:=Of) aq I3 (by decide) rfl rfl hM (fY (aiG _ (by show _∈L.map _;exact bP.2 ⟨e,az hld,rfl⟩))) (.inr ⟨rfl,rfl⟩) (fun aiH aiI QL kB=>?_);have:=ak gp;replace eL:=(kB.mem _ this).2 eL;replace gp:=kB.aM gp;have:=ak fI;replace gI:=(kB.mem _ this).2 gI;replace fI:=kB.aM fI;replace hs:=hs.le kB.le;replace hb:=hb.le kB.le;replace cM:=cM.le kB.le;replace jF:=jF.le kB.le;replace fx:=fx.le kB.le;replace pz:=pz.le (by decide) kB.le;replace eU:=eU.aL kB;replace gP:=gP.aL kB;replace hM:=kB.lt hM;have:=S.size;replace S:=S.aB kB;refine(fun(kp:eN _ _ _)=>ab ⟨rfl,rfl,fun _=>kp,?_⟩) (by first|exact kp|exact kp.rF (by assumption)|exact kp.goN (by assumption)|exact kp.go (by assumption) (fun _ _ h=>by first|exact h|exact h.elim));refine lN (M:=Of) (base:=w0.heap.size) aq I3 rfl rfl rfl rfl gP QL (ao _ _) (by simp;omega) (by simp;omega) S.size (fun Ie amL G6 nk V6=>?_);generalize jv (Of) Ie=SA at G6 nk;have QM:ie Ie A3:=Ic.symm.grown V6 (fun b hb=>(eU.base b hb).2);replace eU:=eU.step nk (fun b hb h=>Ic.symm b h hb);replace eL:=(nk.mem _ (ak gp)).2 eL;replace gp:=nk.keep gp (fun h=>by first|exact gP.eO gp (by decide) h|(have:=(gP.base _ h).2;omega))
        replace gI:=(nk.mem _ (ak fI)).2 gI;replace fI:=nk.keep fI (fun h=>by first|exact gP.eO fI (by decide) h|(have:=(gP.base _ h).2;omega));replace hs:=hs.le nk.le;replace hb:=hb.le nk.le;replace cM:=cM.le nk.le;replace jF:=jF.le nk.le;replace fx:=fx.le nk.le;replace S:=S.dg nk gP (aN _);replace hM:=nk.lt hM;replace gP:=G6;clear G6;refine(fun(kp:eN _ _ _)=>ab ⟨rfl,rfl,fun _=>kp,?_⟩) (kp.go nk (fun b hb h=> .inr h));refine cw (M:=SA) kD rfl rfl gp rfl (by obtain⟨_,_,he,_⟩:=eU.isSlice;rw[he];rfl) eL (fun V7 Og k4=>?_);change V7.heap[_]? =some (Obj.cells #[A3,vq,.slice none 0 0,.slice none 0 0] _ _)at Og;have:=ak gp;replace eL:=(k4.mem _ this).2 eL;have:=ak fI;replace gI:=(k4.mem _ this).2 gI;replace fI:=k4.keep fI (fun hk=>by have hk:_=_:=hk;omega);replace hs:=hs.le k4.le;replace hb:=hb.le k4.le;replace cM:=cM.le k4.le;replace jF:=jF.le k4.le;replace fx:=fx.le k4.le;replace eU:=eU.step k4 (fun c hc h=>by first|exact eU.eO gp (by decide) ((show c=fu from h)▸hc)|(have h:c=uy:=h;have:=uv c hc;omega));replace gP:=gP.step k4 (fun c hc h=>by first|exact gP.eO gp (by decide) ((show c=fu from h)▸hc)|(have h:c=uy:=h;have:=uw c hc;omega));replace hM:=k4.lt hM;have:=S.size;replace S:=S.trans k4 (fun k hk h=>by have h:_=_:=h;subst h;first|(exfalso;omega)|(show _≤_;omega)|exact⟨by first|omega|assumption,(S.mem _ hk).1 ((k4.mem _ (ak gp)).1 eL)⟩|exact .inl rfl|exact .inr rfl|exact .inr (.inl rfl)|exact .inr (.inr rfl)|exact .inr (.inr (.inl rfl))|exact rfl);have gp_:=Og;clear gp;have gp:=gp_;clear gp_;refine ab ⟨rfl,rfl,fun h=>absurd rfl h,?_⟩;refine bK (o':=1) bY rfl rfl kD (by decide) rfl rfl ?_;refine ab ⟨rfl,rfl,fun h=>absurd rfl h,?_⟩;refine cw (M:=SA) kD rfl rfl gp rfl (by obtain⟨_,_,he,_⟩:=gP.isSlice;rw[he];rfl) eL (fun V8 Oh k5=>?_)
        change V8.heap[_]? =some (Obj.cells #[A3,Ie,.slice none 0 0,.slice none 0 0] _ _)at Oh;have:=ak gp;replace eL:=(k5.mem _ this).2 eL;have:=ak fI;replace gI:=(k5.mem _ this).2 gI;replace fI:=k5.keep fI (fun hk=>by have hk:_=_:=hk;omega);replace hs:=hs.le k5.le;replace hb:=hb.le k5.le;replace cM:=cM.le k5.le;replace jF:=jF.le k5.le;replace fx:=fx.le k5.le;replace eU:=eU.step k5 (fun c hc h=>by first|exact eU.eO gp (by decide) ((show c=fu from h)▸hc)|(have h:c=uy:=h;have:=uv c hc;omega));replace gP:=gP.step k5 (fun c hc h=>by first|exact gP.eO gp (by decide) ((show c=fu from h)▸hc)|(have h:c=uy:=h;have:=uw c hc;omega));replace hM:=k5.lt hM;have:=S.size;replace S:=S.trans k5 (fun k hk h=>by have h:_=_:=h;subst h;first|(exfalso;omega)|(show _≤_;omega)|exact⟨by first|omega|assumption,(S.mem _ hk).1 ((k5.mem _ (ak gp)).1 eL)⟩|exact .inl rfl|exact .inr rfl|exact .inr (.inl rfl)|exact .inr (.inr rfl)|exact .inr (.inr (.inl rfl))|exact rfl);have gp_:=Oh;clear gp;have gp:=gp_;clear gp_;refine ab ⟨rfl,rfl,fun h=>absurd rfl h,?_⟩;refine mM (ae (bC rfl rfl rfl (by omega) (ad rfl rfl (ab ?_))));refine⟨rfl,(k+1,A3,Ie),(.cons rfl (.cons rfl (.cons rfl (.cons rfl (.cons rfl (.cons rfl (.cons rfl .nil))))))),?_,?_⟩
        ·refine⟨by dsimp only;omega,_,hM,S,hs,hb,cM,jF,fx,gp,eL,?_,?_,QM.symm⟩
         ·dsimp only;rw[bV,hek,cE,cX];exact eU
         ·dsimp only;rw[bV,hek,cE,cX];exact gP
        ·dsimp only;omega
       ·refine cK (aj (ae ?_));have Cx:((kz g (dX out)).map (iJ g)).length=(kz g (dX out)).length:=by rw[aG]
        rw[aW (by omega)]at eU gP;refine ad rfl rfl (bQ eT rfl hs rfl (aU (v':= .int .i64 (g.length:Int)) (by rw[mQ]) ?_));refine Rg.mk0 (len:=g.length) (M3) cP kD rfl rfl rfl rfl (by omega) (by omega) (fun G7 wto zto arZ gto Ka=>?_);obtain⟨Mto,aaD⟩:∃M',M'=ins (M3) G7:=⟨_,rfl⟩;rw[←aaD]at Ka
        have A4:Own ((RT.int .i64).sl) 37 Mto wto w0.heap.size (.slice (some ⟨G7,0,none⟩) g.length g.length) (List.replicate g.length []):=by
         refine⟨⟨List.replicate g.length (.slice none 0 0),⟨by rw[cf,cf];exact(eP _).symm,.inr ⟨G7,g.length,_,by rw[cf],by have:=S.size;omega,gto,by rw[cf];exact aN _,by unfold maxLen;omega,by rw[List.size_toArray,cf];exact(eP _).symm,by rw[cf];show(List.replicate _ _).toArray.toList.take (g.length*1)=_;rw[List.toList_toArray,eP,aW (by rw[cf];exact aN _)]⟩⟩,A1 _⟩,fun b hb=>by cases hb;rw[aaD];exact .inl rfl⟩
        clear gto;have:=ak gp;replace eL:=(Ka.mem _ this).2 eL;replace gp:=Ka.aM gp;replace hs:=hs.le Ka.le;replace hb:=hb.le Ka.le;replace cM:=cM.le Ka.le;replace jF:=jF.le Ka.le;replace fx:=fx.le Ka.le;replace eU:=eU.aL Ka;replace gP:=gP.aL Ka;replace hM:=Ka.lt hM;have:=S.size;replace S:=S.aB Ka;refine ah rfl rfl (ab (aj (aj (ae (ad rfl rfl (bQ eT rfl hs rfl (aU (v':= .int .i64 (g.length:Int)) (by rw[mQ]) (ad rfl rfl (ab (aZ ?_))))))))));refine dn (σ:=Nat) (fun i=>[(0,v0),(8,vk),(15,vo),(19,.pointer (some ⟨fu,0,none⟩)),(22,.slice (some ⟨G7,0,none⟩) g.length g.length),(138,v0),(139,.int .i64 (g.length:Int)),(140,.int .i64 (i:Int))]) (fun i w=>i≤g.length∧∃M',Lt M' w∧Step M w0 M' w aC∧(((RT.se).ptr).sl).V M' w (g.map fun p=>pq (fk p.1)) v0∧(RT.JU.sl).V M' w bs v1∧kK M' w g bs∧(RT.str.sl.sl).V M' w (g.map fun p=>keysOf p.1) vk∧(RT.fo.sl).V M' w (kz g (dX out)) vo∧w.heap[fu]? =some (.cells #[vi,vq,.slice none 0 0,.slice none 0 0] 72 (0,0))∧M' fu∧Own (RT.int .i64) 3 M' w w0.heap.size vi (((kz g (dX out)).map (iJ g)).map (·.1.1))∧Own (RT.int .i64) 3 M' w w0.heap.size vq (((kz g (dX out)).map (iJ g)).map (·.2))∧(∃tos:List (List Int),tos.length=g.length∧(∀(j:Nat) (p:List En×List Bool),j<i→g[j]? =some p→Plc (kz g (dX out)) j p.1.length (tos.getD j []))∧Own ((RT.int .i64).sl) 37 M' w w0.heap.size (.slice (some ⟨G7,0,none⟩) g.length g.length) tos)) (fun i=>g.length-i) 0 (.cons rfl (.cons rfl (.cons rfl (.cons rfl (.cons rfl (.cons rfl (.cons rfl (.cons rfl .nil)))))))) ?_ ?_
        ·exact⟨bD _,_,hM,S,hs,hb,cM,jF,fx,gp,eL,eU,gP,_,cf ..,(fun j p h=>by omega),A4⟩
        ·clear hM S hs hb cM jF fx gp eL eU gP A4;rintro i w ⟨hi,M4,hM,S,hs,hb,cM,jF,fx,gp,eL,eU,gP,tos,ET,aaE,A4⟩;refine aj (ae (cg rfl rfl rfl (ab (aj ?_))));refine bI rfl (fun c33=>?_) (fun c33=>?_)
         ·refine aT (aj (aZ (aj (ae (ad rfl rfl ?_)))));obtain⟨p,mI⟩:∃p,g[i]? =some p:=⟨_,ar (by omega)⟩;have Fc:=az mI;have IY:(g.map fun p=>pq (fk p.1))[i]? =some (pq (fk p.1)):=by rw[br,mI];rfl
          obtain⟨QG,rH⟩:=hg p Fc;have OF:=Sv p Fc;refine cF (M:=M4) eT J7 rfl rfl rfl hs (ao _ _) (by omega) (fun u34 x_ kA aiJ=>?_);rw[ay]at kA;obtain rfl:=aH (IY.symm.trans kA);refine bR (M:=M4) jf rfl rfl rfl rfl rfl aiJ (ao _ _) (fun v34 aiK=>?_);have QN:=nf.1 aiK;obtain⟨a34,rfl⟩:=QN.ij;refine ah rfl rfl (ah rfl rfl (ab (ae (ad rfl rfl (ad rfl rfl (ad rfl rfl (ad rfl rfl (ad rfl rfl ?_))))))));refine aY rfl rfl VF (vv _ QN) (fun ar2 ar3 hc=>?_);obtain⟨rfl,rfl⟩:=hc;refine aU (v':= .int .i64 (p.1.length:Int)) (by show Value.int .i64 (((p.1.map _).length:Nat):Int)=_;rw[aG]) ?_;refine aY rfl rfl E61 (Ef (i:=(i:Int)) hM fx (n:=p.1.length) (by omega)) (fun ar4 ar5 hc=>?_);obtain⟨ar6,xs,Oi,aiL,_,aiM⟩:=hc;obtain⟨rq,oC⟩:=aiL.GD (hn:=by decide) H5 aiM (aN _) hM (by rw[Oi.1];omega);have:=ak gp;replace eL:=(oC.mem _ this).2 eL;replace gp:=oC.aM gp;replace hs:=hs.le oC.le;replace hb:=hb.le oC.le;replace cM:=cM.le oC.le;replace jF:=jF.le oC.le;replace fx:=fx.le oC.le;replace QN:=QN.le (by decide) oC.le;replace eU:=eU.aL oC;replace gP:=gP.aL oC;replace A4:=A4.aL oC;replace hM:=oC.lt hM;have:=S.size;replace S:=S.aB oC;refine vQ (size:=1) cP kD rfl rfl rfl (by omega) (q:=i) (by omega) ?_;refine Rg.VE (A:=((RT.int .i64).sl)) (M:=M4) ⟨rfl,rfl⟩ kD rfl rfl A4 (by omega) rq (fun ar7 aaF zd=>?_);have aiN:∀c,vi.ownBlock=some c→¬c=G7:=fun c hc h=>(eU.dz A4 (by decide) hc) (by rw[h];rfl)
          have aiO:∀c,vq.ownBlock=some c→¬c=G7:=fun c hc h=>(gP.dz A4 (by decide) hc) (by rw[h];rfl)
          replace eU:=eU.step zd aiN;replace gP:=gP.step zd aiO;replace eL:=(zd.mem _ (ak gp)).2 eL;replace gp:=zd.keep gp (fun h=>A4.eO gp (by decide) (by rw[show fu=G7 from h];rfl));replace hs:=hs.le zd.le;replace hb:=hb.le zd.le;replace cM:=cM.le zd.le;replace jF:=jF.le zd.le;replace fx:=fx.le zd.le;have ar8:=(A4.base G7 rfl).1;replace S:=S.cj zd (fun b hb=>by have hb:b=G7:=hb;omega);replace hM:=zd.lt hM;replace A4:=aaF;clear aaF;refine ab (ae (bC rfl rfl rfl (by omega) (ad rfl rfl (ab ?_))));refine⟨rfl,i+1,(.cons rfl (.cons rfl (.cons rfl (.cons rfl (.cons rfl (.cons rfl (.cons rfl (.cons rfl .nil)))))))),?_,?_⟩
          ·refine⟨by omega,_,hM,S,hs,hb,cM,jF,fx,gp,eL,eU,gP,_,by rw[eV];exact ET,fun j p' hj Xn=>?_,A4⟩;rw[aA,dq];rcases cG j i with h|h
           ·rw[if_neg (by omega),←aA];exact aaE j p' h Xn
           ·obtain rfl:i=j:=by omega
            rw[mI]at Xn;cases Xn;rw[if_pos rfl,if_pos (by omega)];exact Oi
          ·omega
         ·refine cK (aj (aj (ae ?_)));have Ig:Ei g (kz g (dX out)) tos:=⟨ET,fun j p h=>aaE j p (by have:=(an.1 h).1;omega) h⟩;obtain⟨OI,aaG⟩:∃v,v=Value.slice (some ⟨G7,0,none⟩) g.length g.length:=⟨_,rfl⟩;rw[←aaG]at A4;refine ad rfl rfl ?_;have nJ:=A4.view (hn:=by decide) (by rw[ET];omega);replace eL:rm M4 OI _:=⟨eL,by first|exact A4.eO gp (by decide)|(intro h;have:=(A4.base _ h).1;omega)⟩;replace hs:=hs.le (eK _ OI _);replace hb:=hb.le (eK _ OI _);replace cM:=cM.le (eK _ OI _);replace jF:=jF.le (eK _ OI _);replace fx:=fx.le (eK _ OI _);replace eU:=eU.Jy (v:=OI) (fun b hb=>by first|exact eU.dz A4 (by decide) hb|exact V9 b hb);replace gP:=gP.Jy (v:=OI) (fun b hb=>by first|exact gP.dz A4 (by decide) hb|exact Wa b hb);replace hM:Lt (rm M4 OI) _:=fun b hb=>hM b hb.1
          replace S:=S.freeze (v:=OI) (fun b hb=>by have:=(A4.base b hb).1;omega);clear A4;subst aaG;have ES:=H7 (ks:=g.map fun p=>keysOf p.1) (a:=100000) (fun l hl=>by obtain⟨p,hp,rfl⟩:=bP.1 hl;exact Gc p hp);rw[aG]at ES;have ar9:100000*g.length≤100000*1000:=zi _ (show g.length≤1000 by omega);have wU:=JD (g.map fun p=>keysOf p.1);obtain⟨hJu,hJm⟩:=y7 (g.map fun p=>keysOf p.1);refine aY rfl rfl E62 (JH _ hM jF (by omega)) (fun rJ w37 hc=>?_);obtain⟨M37,hoJ,_,s37⟩:=hc;obtain⟨th,xe⟩:=hoJ.GD (hn:=by decide) ni s37 (aN _) hM (by omega);have:=ak gp;replace eL:=(xe.mem _ this).2 eL;replace gp:=xe.aM gp;replace hs:=hs.le xe.le;replace hb:=hb.le xe.le;replace cM:=cM.le xe.le;replace jF:=jF.le xe.le;replace fx:=fx.le xe.le;replace nJ:=nJ.le xe.le;replace eU:=eU.aL xe;replace gP:=gP.aL xe;replace hM:=xe.lt hM;have:=S.size;replace S:=S.aB xe;refine bQ aS rfl th rfl (ad rfl rfl (ab (aZ ?_)));refine dn (σ:=Nat×Value×Value) (fun q=>[(0,v0),(19,.pointer (some ⟨fu,0,none⟩)),(22,.slice (some ⟨G7,0,none⟩) g.length g.length),(155,rJ),(156,.int .i64 ((jo (g.map fun p=>keysOf p.1)).length:Int)),(157,.int .i64 (q.1:Int))]) (fun q w=>q.1≤(jo (g.map fun p=>keysOf p.1)).length∧∃M',Lt M' w∧Step M w0 M' w aC∧(((RT.se).ptr).sl).V M' w (g.map fun p=>pq (fk p.1)) v0∧(RT.str.sl).V M' w (jo (g.map fun p=>keysOf p.1)) rJ∧(((RT.int .i64).sl).sl).V M' w tos (.slice (some ⟨G7,0,none⟩) g.length g.length)∧w.heap[fu]? =some (.cells #[vi,vq,q.2.1,q.2.2] 72 (0,0))∧M' fu∧Own (RT.int .i64) 3 M' w w0.heap.size vi (((kz g (dX out)).map (iJ g)).map (·.1.1))∧Own (RT.int .i64) 3 M' w w0.heap.size vq (((kz g (dX out)).map (iJ g)).map (·.2))∧Own RT.str 9 M' w w0.heap.size q.2.1 (((jo (g.map fun p=>keysOf p.1)).take q.1).filter (fun k=> !(pk ((kz g (dX out)).map (iJ g)) k).isEmpty))∧Own (RT.po.sl) 80 M' w w0.heap.size q.2.2 ((((jo (g.map fun p=>keysOf p.1)).take q.1).filter (fun k=> !(pk ((kz g (dX out)).map (iJ g)) k).isEmpty)).map (pk ((kz g (dX out)).map (iJ g))))) (fun q=>(jo (g.map fun p=>keysOf p.1)).length-q.1) (0,.slice none 0 0,.slice none 0 0) (.cons rfl (.cons rfl (.cons rfl (.cons rfl (.cons rfl (.cons rfl .nil)))))) ?_ ?_
          ·exact⟨bD _,_,hM,S,hs,th,nJ,gp,eL,eU,gP,dD _ _ _ _ _,dD _ _ _ _ _⟩
          ·clear hM S hs hb cM jF fx th nJ gp eL eU gP;rintro⟨qk,Ct,Wb⟩ w ⟨hq,M5,hM,S,hs,th,nJ,gp,eL,eU,gP,hok,fB⟩;dsimp only at hq gp hok fB ⊢;refine aj (ae (cg rfl rfl rfl (ab (aj ?_))));refine bI rfl (fun c38=>?_) (fun c38=>?_)
           ·refine aT (aj (aZ (aj (ae ?_))));obtain⟨key,hkq⟩:∃x,(jo (g.map fun p=>keysOf p.1))[qk]? =some x:=⟨_,ar (by omega)⟩;refine cF (M:=M5) aS I9 rfl rfl rfl th (ao _ _) (by omega) (fun u39 x_ kA aiP=>?_);rw[ay]at kA;obtain rfl:=aH (hkq.symm.trans kA);refine bR (M:=M5) aF rfl rfl rfl rfl rfl aiP (ao _ _) (fun asf aaI=>?_);obtain⟨rfl,Cl⟩:=kI.1 aaI;refine ah rfl rfl (ab (aj (ae (ah rfl rfl (ab (aj (aj (ae (ad rfl rfl (bQ eT rfl hs rfl (aU (v':= .int .i64 (g.length:Int)) (by rw[mQ]) ?_)))))))))));refine ad rfl rfl (ab (aZ ?_));refine dn (σ:=Nat×Value) (fun q=>[(0,v0),(19,.pointer (some ⟨fu,0,none⟩)),(22,.slice (some ⟨G7,0,none⟩) g.length g.length),(155,rJ),(156,.int .i64 ((jo (g.map fun p=>keysOf p.1)).length:Int)),(157,.int .i64 (qk:Int)),(26,.string ⟨key.toArray⟩),(27,q.2),(161,v0),(162,.int .i64 (g.length:Int)),(163,.int .i64 (q.1:Int))]) (fun q w=>q.1≤g.length∧∃M',Lt M' w∧Step M w0 M' w aC∧(((RT.se).ptr).sl).V M' w (g.map fun p=>pq (fk p.1)) v0∧(RT.str.sl).V M' w (jo (g.map fun p=>keysOf p.1)) rJ∧(((RT.int .i64).sl).sl).V M' w tos (.slice (some ⟨G7,0,none⟩) g.length g.length)∧w.heap[fu]? =some (.cells #[vi,vq,Ct,Wb] 72 (0,0))∧M' fu∧Own (RT.int .i64) 3 M' w w0.heap.size vi (((kz g (dX out)).map (iJ g)).map (·.1.1))∧Own (RT.int .i64) 3 M' w w0.heap.size vq (((kz g (dX out)).map (iJ g)).map (·.2))∧Own RT.str 9 M' w w0.heap.size Ct (((jo (g.map fun p=>keysOf p.1)).take qk).filter (fun k=> !(pk ((kz g (dX out)).map (iJ g)) k).isEmpty))∧Own (RT.po.sl) 80 M' w w0.heap.size Wb ((((jo (g.map fun p=>keysOf p.1)).take qk).filter (fun k=> !(pk ((kz g (dX out)).map (iJ g)) k).isEmpty)).map (pk ((kz g (dX out)).map (iJ g))))∧Own RT.po 83 M' w w0.heap.size q.2 (xb g tos key q.1)) (fun q=>g.length-q.1) (0,.slice none 0 0) (.cons rfl (.cons rfl (.cons rfl (.cons rfl (.cons rfl (.cons rfl (.cons rfl (.cons rfl (.cons rfl (.cons rfl (.cons rfl .nil))))))))))) ?_ ?_
            ·exact⟨bD _,_,hM,S,hs,th,nJ,gp,eL,eU,gP,hok,fB,dD _ _ _ _ _⟩
            ·clear hM S hs th nJ gp eL eU gP hok fB;rintro⟨i,OJ⟩ w ⟨hi,M6,hM,S,hs,th,nJ,gp,eL,eU,gP,hok,fB,uz⟩;dsimp only at hi uz ⊢;have aiQ:=EG (k:=key) (tos:=tos) hg Sv hi;refine aj (ae (cg rfl rfl rfl (ab (aj ?_))));refine bI rfl (fun c42=>?_) (fun c42=>?_)
             ·refine aT (aj (aZ (aj (ae (ad rfl rfl ?_)))));obtain⟨p,mI⟩:∃p,g[i]? =some p:=⟨_,ar (by omega)⟩;have Fc:=az mI;have IY:(g.map fun p=>pq (fk p.1))[i]? =some (pq (fk p.1)):=by rw[br,mI];rfl
              obtain⟨QG,rH⟩:=hg p Fc;have OF:=Sv p Fc;refine cF (M:=M6) eT J7 rfl rfl rfl hs (ao _ _) (by omega) (fun u43 x_ kA aiR=>?_);rw[ay]at kA;obtain rfl:=aH (IY.symm.trans kA);refine bR (M:=M6) jf rfl rfl rfl rfl rfl aiR (ao _ _) (fun v43 aiS=>?_);have zY:=nf.1 aiS;obtain⟨a43,rfl⟩:=zY.ij;refine ah rfl rfl (ah rfl rfl (ab ?_));apply T.Ky [0,1,2,4,5,6,7,3,8,9,10] 7 [0,3,4,5,6] 2 aC mixed
              ·simp+decide only[xK,sy,dQ,jd,iZ,ja,fa,cW,hY,qc,cond_true,cond_false,Nat.reduceBEq,Nat.reduceAdd,beq_self_eq_true];rfl
              ·rfl
              ·rfl
              ·rfl
              ·rfl
              ·rfl
              ·rfl
              intro aiT aiU;have vK:=aiU M6;have:=ak gp;replace eL:=(vK.mem _ this).2 eL;replace gp:=vK.aM gp;replace hs:=hs.le vK.le;replace th:=th.le vK.le;replace nJ:=nJ.le vK.le;replace zY:=zY.le (by decide) vK.le;replace eU:=eU.aL vK;replace gP:=gP.aL vK;replace hok:=hok.aL vK;replace fB:=fB.aL vK;replace uz:=uz.aL vK;replace hM:=vK.lt hM;have:=S.size;replace S:=S.aB vK;refine ad rfl rfl ?_;refine ab ⟨rfl,rfl,rfl,?_⟩;refine ad rfl rfl ?_;refine ab ⟨rfl,rfl,rfl,?_⟩;refine ad rfl rfl ?_;refine ab ⟨rfl,rfl,rfl,?_⟩;refine ad rfl rfl ?_;refine ab ⟨rfl,rfl,rfl,?_⟩;refine ad rfl rfl ?_;refine ab ⟨rfl,rfl,rfl,?_⟩;obtain⟨tt,htt⟩:∃x,tos[i]? =some x:=⟨_,ar (by omega)⟩;have htd:tos.getD i []=tt:=by rw[aA,htt];rfl
              have Oi:=Ig.2 i p mI;rw[htd]at Oi;refine cF (M:=M6) cP kD rfl rfl rfl nJ (ao _ _) (by omega) (fun ash x_ kA SB=>?_);rw[ay]at kA;obtain rfl:=aH (htt.symm.trans kA);refine ab ⟨rfl,rfl,rfl,?_⟩;refine bR (M:=M6) aq rfl rfl rfl rfl rfl SB (ao _ _) (fun asi ze=>?_);refine ab ⟨rfl,rfl,rfl,?_⟩;refine eZ ?_;obtain⟨bb,oo,cs_,ee_,fr_,rfl,lp,hnM⟩:=SB.float;refine⟨iA ⟨eS,⟨eS,⟨eS,⟨bX.idx,⟨eF rfl lp (fun h=>h),trivial⟩⟩⟩⟩⟩,?_⟩;have kp:=jG aC aiT;have Wc:=pf key p.1 0 (jL QG);refine aY rfl rfl E36 (tg (ls:=(keysOf p.1).map (pk p.1)) (k:=key) _ hM zY (iX _) (B6 QG (by omega))) (fun asj asl hc=>?_);obtain⟨Cr,uA⟩:=hc;have aiV:HW (pq (fk p.1)).2.2.1 ((keysOf p.1).map (pk p.1)) key=pk p.1 key:=yN _;rw[aiV]at Cr;have:=ak gp;replace eL:=(uA.mem _ this).2 eL;replace gp:=uA.aM gp;replace hs:=hs.le uA.le;replace th:=th.le uA.le;replace nJ:=nJ.le uA.le;replace zY:=zY.le (by decide) uA.le;replace ze:=ze.le uA.le;replace eU:=eU.aL uA;replace gP:=gP.aL uA;replace hok:=hok.aL uA;replace fB:=fB.aL uA;replace uz:=uz.aL uA;replace hM:=uA.lt hM;have:=S.size;replace S:=S.aB uA;refine(fun(kp:eN _ _ _)=>ab ⟨rfl,rfl,fun _=>kp,?_⟩) (by first|exact kp|exact kp.rF (by assumption)|exact kp.goN (by assumption)|exact kp.go (by assumption) (fun _ _ h=>by first|exact h|exact h.elim));refine aY rfl rfl E63 (GU _ hM Cr ze (by have:(pk p.1 key).length≤p.1.length:=Wc.1;omega) (fun x hx=>by have:=Wc.2 x hx;rw[Oi.1];omega)) (fun asm aso hc=>?_);obtain⟨asp,aaJ,_,p9⟩:=hc;have qj:=tf tt (pk p.1 key);have asq:(pk p.1 key).length≤p.1.length:=Wc.1;have hmv:=Own.close (hn:=by decide) hM p9 aaJ (by omega);replace p9:=p9.back;have:=ak gp
              replace eL:=(p9.mem _ this).2 eL;replace gp:=p9.aM gp;replace hs:=hs.le p9.le;replace th:=th.le p9.le;replace nJ:=nJ.le p9.le;replace zY:=zY.le (by decide) p9.le;replace ze:=ze.le p9.le;replace Cr:=Cr.le p9.le;replace eU:=eU.aL p9;replace gP:=gP.aL p9;replace hok:=hok.aL p9;replace fB:=fB.aL p9;replace uz:=uz.aL p9;replace hM:=p9.lt hM;have:=S.size;replace S:=S.aB p9;refine(fun(kp:eN _ _ _)=>ab ⟨rfl,rfl,fun _=>kp,?_⟩) (by first|exact kp|exact kp.rF (by assumption)|exact kp.goN (by assumption)|exact kp.go (by assumption) (fun _ _ h=>by first|exact h|exact h.elim));refine dd (M:=M6) (base:=w0.heap.size) bA nW rfl rfl rfl rfl uz hmv (ao _ _) (by omega) (by omega) (S.size) (fun aaK amP amQ Wd mL=>?_);have:=ak gp;replace eL:=(mL.mem _ this).2 eL;replace gp:=mL.keep gp (fun h=>by first|exact uz.ek gp h|exact uz.eO gp (by decide) h|(have:=(uz.base _ h).1;omega));replace hs:=hs.le mL.le;replace th:=th.le mL.le;replace nJ:=nJ.le mL.le;replace zY:=zY.le (by decide) mL.le;replace ze:=ze.le mL.le;replace Cr:=Cr.le mL.le;replace hmv:=hmv.le mL.le;replace eU:=eU.step mL (fun b h1 h2=>eU.dz uz (by decide) h1 h2);replace gP:=gP.step mL (fun b h1 h2=>gP.dz uz (by decide) h1 h2);replace hok:=hok.step mL (fun b h1 h2=>hok.dz uz (by decide) h1 h2);replace fB:=fB.step mL (fun b h1 h2=>fB.dz uz (by decide) h1 h2);replace hM:=mL.lt hM;have:=S.size;replace S:=S.dg mL uz (aN _);replace uz:=Wd;refine ab ⟨rfl,rfl,fun h=>absurd rfl h,?_⟩;refine ah rfl rfl ?_;refine ab ⟨rfl,rfl,fun h=>absurd rfl h,?_⟩;refine mM (ae (bC rfl rfl rfl (by omega) (ad rfl rfl (ab ?_))));refine⟨rfl,(i+1,aaK),(.cons rfl (.cons rfl (.cons rfl (.cons rfl (.cons rfl (.cons rfl (.cons rfl (.cons rfl (.cons rfl (.cons rfl (.cons rfl .nil))))))))))),?_,?_⟩
              ·refine⟨by dsimp only;omega,_,hM,S,hs,th,nJ,gp,eL,eU,gP,hok,fB,?_⟩;dsimp only;rw[vD,htd,show(g.getD i ([],[]))=p from by rw[aA,mI];rfl];exact uz
              ·dsimp only;omega
             ·refine cK (aj (ae ?_));have hig:i=g.length:=by omega
              rw[hig]at uz aiQ;refine ad rfl rfl (fE bA rfl uz rfl (iY rfl rfl rfl (ab ?_)));refine bI rfl (fun c46=>?_) (fun c46=>?_)
              ·refine aj (ae (ad rfl rfl ?_));have aaL:∀p∈g,p.1.length≤1000000:=fun p hp=>by have:=Sv p hp;omega
               have ast:=fun b hb=>uz.base b hb
               refine aY rfl rfl E64 (Ev _ uz (xr hg aaL EV Ig (aN _)) (by omega) (by omega)) (fun r47 QO hc=>?_);obtain⟨rfl,s5,DQ,QB,EK,Oj⟩:=hc;obtain rfl:s5=pk ((kz g (dX out)).map (iJ g)) key:=Ek hg aaL hEl EV Ig DQ QB;replace eU:=eU.step Oj (fun b h1 h2=>eU.dz uz (by decide) h1 h2);replace gP:=gP.step Oj (fun b h1 h2=>gP.dz uz (by decide) h1 h2);replace hok:=hok.step Oj (fun b h1 h2=>hok.dz uz (by decide) h1 h2);replace fB:=fB.step Oj (fun b h1 h2=>fB.dz uz (by decide) h1 h2);replace eL:=(Oj.mem _ (ak gp)).2 eL;replace gp:=Oj.keep gp (fun h=>uz.eO gp (by decide) h);replace hs:=hs.le Oj.le;replace th:=th.le Oj.le;replace nJ:=nJ.le Oj.le;replace S:=S.dg Oj uz (aN _);replace hM:=Oj.lt hM
               have aaM:(fun k=> !(pk ((kz g (dX out)).map (iJ g)) k).isEmpty) key=true:=by
                have h1:=DQ.length_eq
                cases hx:pk ((kz g (dX out)).map (iJ g)) key with
                |nil=>rw[hx]at h1;simp at h1;omega
                |cons a b=>simp[hx]
               have asu:(pk ((kz g (dX out)).map (iJ g)) key).length≤1000000:=by have:=DQ.length_eq;omega
               have Ol:=EK.view (hn:=by decide) (by omega);obtain⟨nK,B8⟩:∃M',M'=rm (M6) OJ:=⟨_,rfl⟩;have lrm:Le (M6) QO nK QO:=by rw[B8];exact eK _ _ _
               rw[←B8]at Ol;replace hs:=hs.le lrm;replace th:=th.le lrm;replace nJ:=nJ.le lrm;replace eL:nK fu:=by rw[B8];exact⟨eL,EK.eO gp (by decide)⟩
               have We:=eU.Jy (v:=OJ) (fun b hb=>eU.dz EK (by decide) hb);rw[←B8]at We;clear eU;have eU:=We;clear We;have Wf:=gP.Jy (v:=OJ) (fun b hb=>gP.dz EK (by decide) hb);rw[←B8]at Wf;clear gP;have gP:=Wf;clear Wf;have Wg:=hok.Jy (v:=OJ) (fun b hb=>hok.dz EK (by decide) hb);rw[←B8]at Wg;clear hok;have hok:=Wg;clear Wg;have Wh:=fB.Jy (v:=OJ) (fun b hb=>fB.dz EK (by decide) hb);rw[←B8]at Wh;clear fB;have fB:=Wh;clear Wh;have hM_:=hM.rm OJ;rw[←B8]at hM_;clear hM;have hM:=hM_;have S_:=S.freeze (v:=OJ) (fun b hb=>(EK.base b hb).1);rw[←B8]at S_;clear S hM_ uz EK lrm;have S:=S_;clear S_;obtain⟨_,_,aiY,_⟩:=iB.1 Ol;refine ab ?_;have asv:(((jo (g.map fun p=>keysOf p.1)).take qk).filter (fun k=> !(pk ((kz g (dX out)).map (iJ g)) k).isEmpty)).length≤(jo (g.map fun p=>keysOf p.1)).length:=dW (l6 _ _) (by rw[bg];omega);have gpp:=gp;have BO:=eU;have Wi:=gP;have SU:=hs;have aiZ:=th;have ai0:=nJ;have aaN:=eL;have B9:=hok;have G8:=fB;have Sp:=S;have hMp:=hM;obtain⟨P4,hP4⟩:∃P4:Value→World→Prop,P4=fun v w'=>Own RT.str 9 (mS v) w' w0.heap.size v ((((jo (g.map fun p=>keysOf p.1)).take qk).filter (fun k=> !(pk ((kz g (dX out)).map (iJ g)) k).isEmpty))++[key])∧(∀c,v.ownBlock=some c→QO.heap.size≤c∨Ct.ownBlock=some c):=⟨_,rfl⟩
               have h4:∀{v:Value} {w w':World},P4 v w→Step nK w nK w' aC→P4 v w':=fun {v w w'} h s=>by rw[hP4]at h ⊢;exact⟨h.1.Sd ni s (fun _ _ h=>h),h.2⟩
               obtain⟨P8,hP8⟩:∃P8:Value→World→Prop,P8=fun v w'=>∃g,v= .slice (some ⟨g,0,none⟩) 1 1∧w'.heap[g]? =some (.cells #[OJ] 80 (0,0))∧QO.heap.size≤g:=⟨_,rfl⟩
               have h8:∀{v:Value} {w w':World} {N:aD},P8 v w→Step nK w nK w' N→(∀b,N b→b<QO.heap.size)→P8 v w':=fun {v w w' N} h s hN=>by
                rw[hP8]at h ⊢;obtain⟨g,a1,a2,a3⟩:=h;exact⟨g,a1,s.keep a2 (fun h=>by have:=hN g h;omega),a3⟩
               apply T.R0 (M:=nK) [0,1,2,3,4,5,6,7,8,10,9,11,12,13] 10 9 194 (.pointer (some ⟨fu,2,none⟩)) [(4,fK Ct)] [cT.eq (.pointer (some ⟨fu,2,none⟩)),cT.eq Ct,cT.eq (.string ⟨key.toArray⟩),cT.V (RT.str.sl) [key],(cT.mk' (fun v w=>P4 v w) (fun h s=>h4 h s)),cT.eq (.pointer (some ⟨fu,3,none⟩)),cT.eq Wb,cT.eq OJ,(⟨fun v w=>P8 v w,fun k=>k<QO.heap.size,fun h s hN=>h8 h s hN⟩:cT nK),cT.eq (.pointer (some ⟨fu,2,none⟩))] mixed
               ·simp+decide only[xK,sy,dQ,jd,iZ,ja,fa,cW,hY,qc,cond_true,cond_false,Nat.reduceBEq,Nat.reduceAdd,beq_self_eq_true];rfl
               ·rfl
               ·rfl
               ·rfl
               ·rfl
               ·rfl
               ·rfl
               ·rfl
               ·rfl
               ·rfl
               ·rfl
               ·rfl
               ·exact fun ρ w h=>yJ (size:=1) (o:=0) (o':=2) bY rfl rfl zn (by decide) (h (.tmp 19) _ rfl) w
               ·intro p hp b hb;simp only[cb,eI,or_false]at hp;subst hp;exact hok.mut_ b hb
               ·exact fun p hp=>by
                 simp only[cb,eI,or_false]at hp;subst hp;show(4:Nat)≠9;decide
               ·exact vR.st (by exact⟨fun _ _ _ _=>trivial,⟨fun _ _ _ _=>trivial,⟨fun _ _ _ _=>trivial,⟨fun _ _ _ _=>trivial,⟨fun p hp b hb=>(by simp at hp),⟨fun _ _ _ _=>trivial,⟨fun _ _ _ _=>trivial,⟨fun _ _ _ _=>trivial,⟨fun p hp b hb=>(by have h1:=bJ.1 (iT.1 hp).1;subst h1;exact(B9.base b hb).2),⟨fun _ _ _ _=>trivial,trivial⟩⟩⟩⟩⟩⟩⟩⟩⟩⟩)
               intro ai3 ai4;have vL:=ai4 nK;have:=ak gp;replace eL:=(vL.mem _ this).2 eL;replace gp:=vL.aM gp;replace hs:=hs.le vL.le;replace th:=th.le vL.le;replace nJ:=nJ.le vL.le;replace eU:=eU.aL vL;replace gP:=gP.aL vL;replace hok:=hok.aL vL;replace fB:=fB.aL vL;replace hM:=vL.lt hM;have:=S.size;replace S:=S.aB vL;have gpR:=gp;have aaO:=hok;have asw:=vL.size;refine⟨?_,?_⟩
               ·refine aJ ?_ ?_
                ·intro wD E sD;replace sD:Step nK _ nK wD (fK Ct):=sD;refine bK (o':=2) bY rfl rfl zn (by decide) rfl rfl ?_;exact ab ⟨rfl,rfl,_,rfl,rfl,ax _ _⟩
                refine aJ ?_ ?_
                ·intro wD E sD;replace sD:Step nK _ nK wD aC:=sD;refine aO (aP aS rfl rfl rfl (sD.aM gpR) rfl ?_);exact ab ⟨rfl,rfl,_,rfl,rfl,ax _ _⟩
                refine aJ ?_ ?_
                ·intro wD E sD;replace sD:Step nK _ nK wD (fK Ct):=sD;refine ad rfl rfl ?_;exact ab ⟨rfl,rfl,_,rfl,rfl,ax _ _⟩
                refine aJ ?_ ?_
                ·intro wD E sD;replace sD:Step nK _ nK wD aC:=sD;refine aO ?_;refine ep (A:=RT.str) (hn:=by decide) (M:=nK) aS I9 (by decide) rfl rfl (sD.lt hM) (kI.2 ⟨rfl,Cl⟩) (.inr ⟨rfl,rfl⟩) (fun uS wS hS sS=>?_);exact ab ⟨rfl,rfl,_,rfl,hS,sS⟩
                refine aJ ?_ ?_
                ·intro wD E sD;replace sD:Step nK _ nK wD aC:=sD;refine aO ?_;intro v3 xo;replace sD:Step nK ai3 nK wD aC:=sD;refine lN (M:=nK) (base:=w0.heap.size) aS I9 rfl rfl rfl rfl (aaO.aL sD) (show(RT.str.sl).V nK wD [key] v3 from xo) (ao _ _) (by rw[cI];omega) (by rw[cI];omega) (by have:=sD.size;have:=S.size;omega) (fun vA wA hoA sA hFA=>?_);exact ab ⟨rfl,rfl,_,rfl,by show P4 vA wA;rw[hP4];exact⟨hoA.Sb ni,fun c hc=>(hFA c hc).elim (fun h=> .inl (by have:=sD.size;omega)) .inr⟩,sA.back⟩
                refine aJ ?_ ?_
                ·intro wD E sD;replace sD:Step nK _ nK wD (fK Ct):=sD;refine bK (o':=3) bY rfl rfl Gm (by decide) rfl rfl ?_;exact ab ⟨rfl,rfl,_,rfl,rfl,ax _ _⟩
                refine aJ ?_ ?_
                ·intro wD E sD;replace sD:Step nK _ nK wD (fK Ct):=sD;refine aO (aP kH rfl rfl rfl (sD.keep gpR (fun h=>aaO.eO gpR (by decide) h)) rfl ?_);exact ab ⟨rfl,rfl,_,rfl,rfl,ax _ _⟩
                refine aJ ?_ ?_
                ·intro wD E sD;replace sD:Step nK _ nK wD (fK Ct):=sD;refine ad rfl rfl ?_;exact ab ⟨rfl,rfl,_,rfl,rfl,ax _ _⟩
                refine aJ ?_ ?_
                ·intro wD E sD;replace sD:Step nK _ nK wD (fK Ct):=sD;refine aO ?_;refine Rg.ag4 (M:=nK) kH zM rfl rfl (by rw[aiY];rfl) (fun gS wS zS hS sS=>?_);exact ab ⟨rfl,rfl,_,rfl,by show P8 _ _;rw[hP8];exact⟨gS,rfl,hS,by have:=sD.size;omega⟩,sS⟩
                refine aJ ?_ ?_
                ·intro wD E sD;replace sD:Step nK _ nK wD (fK Ct):=sD;refine aO (aO (aO ?_));intro v3 xo;intro v4 qR;refine aO (aO (bK (o':=2) bY rfl rfl zn (by decide) rfl rfl ?_));exact ab ⟨rfl,rfl,_,rfl,rfl,ax _ _⟩
                exact xg
               ·intro JO Wj;replace Wj:Step nK _ nK JO (fK Ct):=Wj;refine aO (aO (aO ?_));intro amR ai6;intro EL Ca;refine aO (aO (aO ?_));intro aaP Cb;refine aO ?_;replace Ca:P4 EL JO:=Ca;rw[hP4]at Ca;obtain⟨qe,ZC⟩:=Ca;replace Cb:P8 aaP JO:=Cb;rw[hP8]at Cb;obtain⟨g8,rfl,hg8,zg8⟩:=Cb;have sX:Step nK QO nK JO (fK Ct):=(vL.cH (fun _ h=>h.elim) (fun b h=>B9.mut_ b h)).trans Wj (fun b _ h=>h);obtain⟨HN,MC⟩:∃M',M'=jv nK EL:=⟨_,rfl⟩;have sY:Step nK QO HN JO (fK Ct):=by rw[MC];exact sX.Zr (fun c hc=>⟨(qe.base c hc).2,(ZC c hc).elim .inl (fun h=> .inr (B9.mut_ c h))⟩)
                have aaQ:=G8.step sY (fun c hc h=>G8.dz B9 (by decide) hc h);have Wk:=Ol.le sY.le
                have Yh:((RT.po.sl).sl).V HN JO [pk ((kz g (dX out)).map (iJ g)) key] (.slice (some ⟨g8,0,none⟩) 1 1):=by
                 refine iB.2 ⟨_,1,rfl,aN _,by simp,.inr ⟨g8,0,rfl,fun h=>?_,fun i x hx=>?_⟩⟩
                 ·rw[MC]at h;rcases h with h|h
                  ·exact qe.eO hg8 (by decide) h
                  ·have:=hMp _ h;omega
                 ·cases i with
                  |zero=>
                   simp at hx;subst hx;obtain⟨vs,h1,h2⟩:=Wk;obtain⟨a,cap,rfl,h3⟩:=h1;refine⟨_,⟨a,cap,rfl,h3⟩,fun j u hj=>?_⟩
                   cases j with
                   |zero=>simp at hj;subst hj;rw[show Value.slice a _ cap=OJ from h2.symm];exact fM hg8 rfl
                   |succ j=>simp at hj
                  |succ i=>simp at hx
                have asx:((((jo (g.map fun p=>keysOf p.1)).take qk).filter (fun k=> !(pk ((kz g (dX out)).map (iJ g)) k).isEmpty)).map (pk ((kz g (dX out)).map (iJ g)))).length≤(jo (g.map fun p=>keysOf p.1)).length:=by rw[aG];exact dW (l6 _ _) (by rw[bg];omega)
                refine lN (M:=HN) (base:=w0.heap.size) kH zM rfl rfl rfl rfl aaQ Yh (ao _ _) (by rw[cI];omega) (by rw[cI];omega) (by have:=Sp.size;have:=sY.size;omega) (fun v12 WB Qf zD Vx=>?_);have ai7:=qe.Sd ni zD (fun c hc h=>qe.dz aaQ (by decide) hc h);have sW:Step nK QO (jv HN v12) WB (fun k=>fK Ct k∨fK Wb k):=(sY.cH (fun _ h=> .inl h) (fun b h=>h.elim (B9.mut_ b) (G8.mut_ b))).trans zD (fun b _ h=> .inr h);obtain⟨Qg,Jq⟩:∃M',M'=jv HN v12:=⟨_,rfl⟩;rw[←Jq]at sW Qf;have hok:=ai7.Qs ni (M':=Qg) (by rw[Jq,MC];exact fun b hb=> .inr (.inl hb));have fB:=Qf;have eL:=(sW.mem _ (ak gpp)).2 aaN;have gp:=sW.keep gpp (fun h=>h.elim (B9.eO gpp (by decide)) (G8.eO gpp (by decide)));have eU:=BO.step sW (fun b h1 h2=>h2.elim (fun h=>BO.dz B9 (by decide) h1 h) (fun h=>BO.dz G8 (by decide) h1 h));have gP:=Wi.step sW (fun b h1 h2=>h2.elim (fun h=>Wi.dz B9 (by decide) h1 h) (fun h=>Wi.dz G8 (by decide) h1 h));have hs:=SU.le sW.le;have th:=aiZ.le sW.le;have nJ:=ai0.le sW.le;have S:=Sp.cj sW (fun k hk=>hk.elim (fun h=>(B9.base k h).1) (fun h=>(G8.base k h).1));have hM:=sW.lt hMp;refine ab ⟨rfl,rfl,fun h=>absurd rfl h,?_⟩;obtain⟨_,_,QP,_⟩:=hok.isSlice;refine cw (M:=Qg) zn rfl rfl gp rfl (by rw[QP];rfl) eL (fun Um g14 jY=>?_);replace g14:Um.heap[fu]? =some (.cells #[vi,vq,EL,Wb] 72 (0,0)):=g14;replace eU:=eU.step jY (fun c hc (h:c=fu)=>eU.eO gp (by decide) (h▸hc));replace gP:=gP.step jY (fun c hc (h:c=fu)=>gP.eO gp (by decide) (h▸hc));replace hok:=hok.step jY (fun c hc (h:c=fu)=>hok.eO gp (by decide) (h▸hc));replace fB:=fB.step jY (fun c hc (h:c=fu)=>fB.eO gp (by decide) (h▸hc));replace eL:=(jY.mem _ (ak gp)).2 eL;replace hs:=hs.le jY.le;replace th:=th.le jY.le;replace nJ:=nJ.le jY.le;replace S:=S.cj jY (fun k (hk:k=fu)=>by rw[hk];omega)
                replace hM:=jY.lt hM;clear gp;have gp:=g14;refine ab ⟨rfl,rfl,fun h=>absurd rfl h,?_⟩;refine bK (o':=3) bY rfl rfl Gm (by decide) rfl rfl ?_;refine ab ⟨rfl,rfl,fun h=>absurd rfl h,?_⟩;obtain⟨_,_,QQ,_⟩:=fB.isSlice;refine cw (M:=Qg) Gm rfl rfl gp rfl (by rw[QQ];rfl) eL (fun WU g16 AP=>?_);replace g16:WU.heap[fu]? =some (.cells #[vi,vq,EL,v12] 72 (0,0)):=g16;replace eU:=eU.step AP (fun c hc (h:c=fu)=>eU.eO gp (by decide) (h▸hc));replace gP:=gP.step AP (fun c hc (h:c=fu)=>gP.eO gp (by decide) (h▸hc));replace hok:=hok.step AP (fun c hc (h:c=fu)=>hok.eO gp (by decide) (h▸hc));replace fB:=fB.step AP (fun c hc (h:c=fu)=>fB.eO gp (by decide) (h▸hc));replace eL:=(AP.mem _ (ak gp)).2 eL;replace hs:=hs.le AP.le;replace th:=th.le AP.le;replace nJ:=nJ.le AP.le;replace S:=S.cj AP (fun k (hk:k=fu)=>by rw[hk];omega);replace hM:=AP.lt hM;clear gp;have gp:=g16;refine ab ⟨rfl,rfl,fun h=>absurd rfl h,?_⟩;refine mM (ae (bC rfl rfl rfl (by omega) (ad rfl rfl (ab ?_))));refine⟨rfl,(qk+1,EL,v12),(.cons rfl (.cons rfl (.cons rfl (.cons rfl (.cons rfl (.cons rfl .nil)))))),?_,?_⟩
                ·refine⟨by dsimp only;omega,_,hM,S,hs,th,nJ,gp,eL,eU,gP,?_,?_⟩
                 ·dsimp only;rw[nj hkq,if_pos aaM];exact hok
                 ·dsimp only;rw[nj hkq,if_pos aaM,cX];exact fB
                ·dsimp only;omega
              ·refine aT (ae (bC rfl rfl rfl (by omega) (ad rfl rfl (ab ?_))));refine⟨rfl,(qk+1,Ct,Wb),(.cons rfl (.cons rfl (.cons rfl (.cons rfl (.cons rfl (.cons rfl .nil)))))),?_,?_⟩
               ·have rj:pk ((kz g (dX out)).map (iJ g)) key=[]:=by
                 have h1:=(vE (k:=key) hg (fun p hp=>by have:=Sv p hp;omega) hEl EV Ig).length_eq;exact cY.1 (by omega)
                refine⟨by dsimp only;omega,_,hM,S,hs,th,nJ,gp,eL,eU,gP,?_,?_⟩
                ·dsimp only;rw[nj hkq,if_neg (by rw[rj];simp)];exact hok
                ·dsimp only;rw[nj hkq,if_neg (by rw[rj];simp)];exact fB
               ·dsimp only;omega
           ·refine cK (aj (ae (iK (vs:=[vi,vq,Ct,Wb]) bY rfl OD rfl rfl rfl gp ?_)));have aaR:=Jw EV hJu (fun x=>(hJm x).trans ⟨fun⟨l,hl,hx⟩=>(bP.1 hl).elim fun p hp=>⟨p,hp.1,hp.2▸hx⟩,fun⟨p,hp,hx⟩=>⟨_,bP.2 ⟨p,hp,rfl⟩,hx⟩⟩);rw[aW (by omega),aaR]at hok fB;have hFE:=jL (EV.ok hg)
            have hkE:(keysOf ((kz g (dX out)).map (iJ g))).length≤1000000000:=by
             rw[←aaR];exact dW (l6 _ _) (by omega)
            have UX:RT.pa.V M _ (fk ((kz g (dX out)).map (iJ g))) _:=YB (x:=fk ((kz g (dX out)).map (iJ g))) (eU.close kR S (by show(List.map _ _).length≤_;rw[aG];omega)) (gP.close kR S (by show(List.map _ _).length≤_;rw[aG];omega)) (hok.close kR S (by show(keysOf _).length≤_;omega)) (fB.close kR S (by show((keysOf _).map _).length≤_;rw[aG];omega));replace S:=S.back;replace hM:=S.lt kR;refine aY rfl rfl E43 (yI (p:=fk ((kz g (dX out)).map (iJ g))) _ hM UX (HU hFE hEl)) (fun asz asA hc=>?_);obtain⟨ai8,NC,_⟩:=hc;obtain⟨sg,rfl,x9⟩:=NC (Nl (EV.ok hg) hEl);replace S:=S.aB ai8;refine bZ rfl rfl rfl (bZ rfl rfl rfl (ah rfl rfl (ah rfl rfl (ab (aQ ?_)))));exact fm rfl rfl rfl ⟨S,.inl ⟨_,_,EV,_,rfl,x9⟩⟩
end Go.K
namespace Go.K
open Go.Proofs
namespace TKBPut
theorem Eo:TI Tryz.prog 131 (.slice none 0 0) 1 24:=by unfold TI;kernel_rfl
theorem yY:TI Tryz.prog 190 (.int .u64 0) 1 8:=by unfold TI;kernel_rfl
end TKBPut
open TKBPut
set_option maxRecDepth 10000
theorem jK.ai9 {M M' N:aD} {w0 w:World} {n:Nat} {ws:List Nat} {bs bw:Nat} {a:List Bool} (hM:Lt M w0) (h:jK 133 190 n ws M' w bs bw) (z1:w0.heap.size≤bs) (z2:w0.heap.size≤bw) (ha:a.length=n) (hb:∀j,bit ws j=true↔a[j]? =some true):Er M w a bs:=
 ⟨ws,⟨bw,⟨trivial,trivial,h.ne,by rw[ha];exact h.s,h.w,by rw[ha];exact h.len,h.ok,by rw[ha];exact h.nn⟩,fun hb=>by have:=hM _ hb;omega,fun hb=>by have:=hM _ hb;omega⟩,hb⟩
theorem G9 {M:aD} {w0:World} {n:Nat} (hM:Lt M w0) (hn:n≤1099511627776):Spec Tryz.prog 23 #[.int .i64 n] w0 (fun v w=>∃bs,v= .pointer (some ⟨bs,0,none⟩)∧Er M w (List.replicate n true) bs∧Step M w0 M w aC):=
 (JC (M:=M) hn).mono fun v w ⟨bs,bw,ws,M',h1,z1,z2,s,h,hb⟩=>⟨bs,h1,h.ai9 (N:=aC) hM z1 z2 (cf ..) (fun j=>by
  rw[hb,kN];constructor
  ·intro h;rw[if_pos (by simpa using h)]
  ·intro h;split at h
   ·rename_i h1;simpa using h1
   ·cases h),s.back⟩
end Go.K
namespace Go.K
open Go.Proofs
namespace TKRef11
theorem kx:TI Tryz.prog 124 (.agg #[(.int .i64 0),(.int .i64 0)]) 2 16:=by unfold TI;kernel_rfl
end TKRef11
open TKRef11
set_option maxRecDepth 10000
end Go.K
namespace Go.K
open Go.Proofs
namespace TKLives11
theorem kx:TI Tryz.prog 124 (.agg #[(.int .i64 0),(.int .i64 0)]) 2 16:=by unfold TI;kernel_rfl
theorem E59:Enters Tryz.prog 59:=enters Tryz.func59 rfl (by decide)
end TKLives11
open TKLives11
set_option maxRecDepth 10000
theorem Cc {M:aD} {w0:World} (hM:Lt M w0):
  Spec Tryz.prog 25 #[] w0 (fun v' w'=>v'= .bool true∧Step M w0 M w' aC):=by
 refine bm (args:=[]) (fn:=Tryz.f25) Tryz.func25 rfl (n:=36) Tryz.ntmps25 (aj (ae (ah rfl rfl (ab (aj (ae ?_))))));refine Rg.Wr (A:=RT.int .i64) (hn:=by decide) (M:=M) (xs:=[1,4]) aq I3 rfl (by decide) rfl ⟨1,[4],_,rfl,rfl,rfl,fY (by omega),4,[],_,rfl,rfl,rfl,fY (by omega),rfl⟩ rfl hM (.inr ⟨rfl,rfl⟩) (by decide) (fun u1 w1 Q0 s1=>?_);refine ep (A:=RT.int .i64) (hn:=by decide) (M:=M) aq I3 (by decide) rfl rfl (s1.lt hM) (fY (x:=2) (by decide)) (.inr ⟨rfl,rfl⟩) (fun u2 w2 wW s2=>?_);refine Rg.Wr (A:=((RT.int .i64).sl)) (hn:=by decide) (M:=M) (xs:=[[1,4],[2]]) cP kD rfl (by decide) rfl ⟨_,_,_,rfl,rfl,rfl,Q0.le s2.le,_,_,_,rfl,rfl,rfl,wW,rfl⟩ rfl (s2.lt (s1.lt hM)) (.inr ⟨rfl,rfl⟩) (by decide) (fun u3 w3 Rz s3=>?_);have S3:=(s1.aB s2).aB s3;refine aY rfl rfl E59 (EE (S3.lt hM) Rz (by decide) (by decide) (by decide)) (fun r4 w4 h=>?_);obtain⟨⟨vo,e,rfl,ho⟩,s4⟩:=h;have S4:=S3.aB s4
 obtain⟨rfl,fx⟩:e=0∧((RT.fo).sl).V M w4 (dX [((1:Int),(0:Int),(0:Int)),(2,1,0),(4,0,1)]) vo:=by
  rcases ho with⟨h,_⟩|⟨_,r,h2,h3⟩
  ·exact absurd NH h
  ·obtain rfl:=h2.un Jv;rcases h3 with⟨h,_⟩|⟨out,h4,h5,h6⟩
   ·cases h
   ·cases h4;exact⟨h5,h6⟩
 replace fx:((RT.fo).sl).V M w4 [((0:Int),(0:Int)),(1,0),(0,1)] vo:=fx;refine ad rfl rfl (bZ rfl rfl rfl (bZ rfl rfl rfl (ah rfl rfl (ah rfl rfl (ab (aj (aj (ae (ad rfl rfl (bQ eX rfl fx rfl (fD rfl rfl rfl ?_)))))))))));refine ab (T.wO rfl ((fun h=>h rfl)) (aT (aj (ae (ad rfl rfl ?_)))));refine cF (M:=M) eX kx rfl rfl rfl (fx) (ao _ _) (by first|omega|decide) (fun X0 aja aaS Ye=>?_);obtain rfl:(0,0)=aja:=dH (aH (aaS.symm.trans rfl));refine cN (M:=M) (A:=RT.fo) cy rfl kx (by decide) rfl rfl rfl (by assumption) (ao _ _) (fun va pW=>?_);obtain⟨rfl,_,_⟩:=qW pW;refine Rg.O8 cy kx I3 rfl rfl rfl (Rg.Fm cy aw I3 (by kernel_rfl) (by kernel_rfl) rfl rfl rfl (ad rfl rfl (Rg.Hb (g:=18) rfl (rfl) (al rfl rfl (ad rfl rfl (al rfl rfl ?_))))));refine cF (M:=M) eX kx rfl rfl rfl (fx) (ao _ _) (by first|omega|decide) (fun asB ajb aaT amT=>?_);obtain rfl:(1,0)=ajb:=dH (aH (aaT.symm.trans rfl));refine al rfl rfl ?_;refine cN (M:=M) (A:=RT.fo) cy rfl kx (by decide) rfl rfl rfl (by assumption) (ao _ _) (fun va pW=>?_);obtain⟨rfl,_,_⟩:=qW pW;refine al rfl rfl (Rg.O8 cy kx I3 rfl rfl rfl (al rfl rfl (Rg.Fm cy aw I3 (by kernel_rfl) (by kernel_rfl) rfl rfl rfl (a8 rfl rfl rfl (ad rfl rfl (Rg.Hb (g:=25) rfl (rfl) (al rfl rfl (ad rfl rfl (al rfl rfl ?_)))))))));refine cF (M:=M) eX kx rfl rfl rfl (fx) (ao _ _) (by first|omega|decide) (fun Y8 MU Gj U5=>?_);obtain rfl:(0,1)=MU:=dH (aH (Gj.symm.trans rfl));refine al rfl rfl ?_;refine cN (M:=M) (A:=RT.fo) cy rfl kx (by decide) rfl rfl rfl (by assumption) (ao _ _) (fun va pW=>?_)
 obtain⟨rfl,_,_⟩:=qW pW;refine al rfl rfl (Rg.O8 cy kx I3 rfl rfl rfl (al rfl rfl (Rg.Fm cy aw I3 (by kernel_rfl) (by kernel_rfl) rfl rfl rfl (a8 rfl rfl rfl (ad rfl rfl (Rg.Hb (g:=32) rfl (rfl) (al rfl rfl (ad rfl rfl (al rfl rfl (qZ rfl rfl rfl (a8 rfl rfl rfl ?_)))))))))));refine ah rfl rfl (ab (aQ ?_));exact aV rfl rfl ⟨rfl,S4⟩
end Go.K
namespace Go.K
open Go.Proofs
namespace TKNone11
theorem J7:TI Tryz.prog 25 (.pointer none) 1 8:=by unfold TI;kernel_rfl
theorem Qu:TI Tryz.prog 47 (.pointer none) 1 8:=by unfold TI;kernel_rfl
theorem E11:Enters Tryz.prog 11:=enters Tryz.func11 rfl (by decide)
theorem E12:Enters Tryz.prog 12:=enters Tryz.func12 rfl (by decide)
theorem E22:Enters Tryz.prog 22:=enters Tryz.func22 rfl (by decide)
theorem E23:Enters Tryz.prog 23:=enters Tryz.func23 rfl (by decide)
theorem E24:Enters Tryz.prog 24:=enters Tryz.func24 rfl (by decide)
theorem E25:Enters Tryz.prog 25:=enters Tryz.func25 rfl (by decide)
theorem VF:Enters Tryz.prog 34:=enters Tryz.func34 rfl (by decide)
theorem E38:Enters Tryz.prog 38:=enters Tryz.func38 rfl (by decide)
end TKNone11
open TKNone11
set_option maxRecDepth 10000
theorem JP {L:List En} (h:qU (-1) L=true):(keysOf L).length≤500*L.length:=by
 have h1:=(iX L).nodup.length_le_of_subset (l₂:=iD L) (fun x hx=>jn.1 hx);have:=om (jL h);omega
end Go.K
namespace Go.K
open Go.Proofs
namespace TKSet11
theorem E24:Enters Tryz.prog 24:=enters Tryz.func24 rfl (by decide)
end TKSet11
open TKSet11
set_option maxRecDepth 10000
end Go.K
namespace Go.K
open Go.Proofs
namespace TKKeeps11
theorem J7:TI Tryz.prog 25 (.pointer none) 1 8:=by unfold TI;kernel_rfl
theorem Qu:TI Tryz.prog 47 (.pointer none) 1 8:=by unfold TI;kernel_rfl
theorem OD:TI Tryz.prog 72 (.agg #[(.slice none 0 0),(.slice none 0 0),(.slice none 0 0),(.slice none 0 0)]) 4 96:=by unfold TI;kernel_rfl
theorem E11:Enters Tryz.prog 11:=enters Tryz.func11 rfl (by decide)
theorem E12:Enters Tryz.prog 12:=enters Tryz.func12 rfl (by decide)
theorem E22:Enters Tryz.prog 22:=enters Tryz.func22 rfl (by decide)
theorem E25:Enters Tryz.prog 25:=enters Tryz.func25 rfl (by decide)
theorem VF:Enters Tryz.prog 34:=enters Tryz.func34 rfl (by decide)
end TKKeeps11
open TKKeeps11
set_option maxRecDepth 10000
end Go.K
namespace Go.K
open Go.Proofs
namespace TKDeal11
theorem J1:TI Tryz.prog 29 (.slice none 0 0) 1 24:=by unfold TI;kernel_rfl
end TKDeal11
open TKDeal11
set_option maxRecDepth 10000
theorem Cd {M:aD} {w:World} {xs:List Int} {v:Value} (h:((RT.int .i64).sl).V M w xs v) (i:Nat): -9223372036854775808≤xs.getD i 0∧xs.getD i 0≤9223372036854775807:=by
 obtain⟨a,cap,_,_,_,hs⟩:=iB.1 h;rw[aA];rcases hs with rfl|⟨b,o,_,_,h3⟩
 ·simp
 ·cases hi:xs[i]? with
  |none=>exact⟨by decide,by decide⟩
  |some x=>obtain⟨vs,hr,_⟩:=h3 i x hi;exact hr.2
theorem Wl {α:Type} {A:RT α} {hn:0<A.n} {M:aD} {w:World} {b:Nat} {e:TypeId} {vs:List Value} {ls:List (List α)} (h:w.heap[b]? =some (.cells vs.toArray e (0,0))) (hb: ¬M b) (hl:vs.length=ls.length) (hx:∀(j:Nat) (v:Value) (l:List α),vs[j]? =some v→ls[j]? =some l→(A.sl hn).V M w l v) (hm:ls.length≤140737488355328):((A.sl hn).sl (hn:=Nat.one_pos)).V M w ls (.slice (some ⟨b,0,none⟩) ls.length ls.length):=
 iB.2 ⟨_,_,rfl,aN _,hm,.inr ⟨b,0,rfl,hb,fun i l hi=>by
  obtain⟨v,hv⟩:∃v,vs[i]? =some v:=⟨_,ar (by rw[hl];exact(an.1 hi).1)⟩;obtain⟨us,⟨a,cap,rfl,h3⟩,h2⟩:=hx i v l hv hi;refine⟨_,⟨a,cap,rfl,h3⟩,fun j u hj=>?_⟩
  cases j with
  |zero=>
   simp at hj;subst hj;refine fM h ?_;show vs.toArray[0+i*1+0]? =_;rw[eD,show 0+i*1+0=i by omega,hv];exact congrArg some h2
  |succ j=>simp at hj⟩⟩
structure nD (M:aD) (w:World) (base:Nat) (vs:List Value) (f:Nat→List En):Prop where
 own:∀(j:Nat) (v:Value),vs[j]? =some v→Own RT.en 71 M w base v (f j)
 apart:∀(j j':Nat) (v v':Value),vs[j]? =some v→vs[j']? =some v'→j≠j'→ie v v'
theorem nD.step {M M' N:aD} {w w':World} {base:Nat} {vs:List Value} {f:Nat→List En} (h:nD M w base vs f) (s:Step M w M' w' N) (hn:∀(j:Nat) (v:Value) (c:Nat),vs[j]? =some v→v.ownBlock=some c→¬N c):nD M' w' base vs f:=
 ⟨fun j v hv=>(h.own j v hv).step s (fun c hc=>hn j v c hv hc),h.apart⟩
theorem nD.aL {M M':aD} {w w':World} {base:Nat} {vs:List Value} {f:Nat→List En} (h:nD M w base vs f) (s:Step M w M' w' aC):nD M' w' base vs f:=h.step s fun _ _ _ _ _ h=>h
theorem nD.grow {M M':aD} {w w':World} {base k:Nat} {vs:List Value} {f f':Nat→List En} {v v':Value} (h:nD M w base vs f) (hk:vs[k]? =some v) (s:Step M w M' w' (fK v)) (ho:Own RT.en 71 M' w' base v' (f' k)) (hF:∀b,v'.ownBlock=some b→w.heap.size≤b∨v.ownBlock=some b) (hf:∀j,j≠k→f' j=f j):nD M' w' base (vs.set k v') f':=by
 have Cl:=(an.1 hk).1
 have hg:∀j u,(vs.set k v')[j]? =some u→(j=k∧u=v')∨(j≠k∧vs[j]? =some u):=fun j u hj=>by
  rw[dq]at hj;by_cases e:k=j
  ·rw[if_pos e,if_pos (by omega)]at hj;exact .inl ⟨e.symm,(aH hj).symm⟩
  ·rw[if_neg e]at hj;exact .inr ⟨fun h=>e h.symm,hj⟩
 refine⟨fun j u hj=>?_,fun j j' u u' hj Q7 eQ=>?_⟩
 ·rcases hg j u hj with⟨rfl,rfl⟩|⟨h1,h2⟩
  ·exact ho
  ·rw[hf j h1];exact(h.own j u h2).step s (fun c hc hb=>h.apart j k u v h2 hk h1 c hc hb)
 ·rcases hg j u hj with⟨rfl,rfl⟩|⟨h1,h2⟩<;>rcases hg j' u' Q7 with⟨rfl,rfl⟩|⟨h3,h4⟩
  ·exact absurd rfl eQ
  ·exact(h.apart j j' v u' hk h4 eQ).grown hF (fun b hb=>((h.own j' u' h4).base b hb).2)
  ·exact((h.apart j' j v u hk h2 (fun e=>eQ e.symm)).grown hF (fun b hb=>((h.own j u h2).base b hb).2)).symm
  ·exact h.apart j j' u u' h2 h4 eQ
theorem EM {M:aD} {w0:World} {g:List En} {to:List Int} {m:Nat} {v0 v1:Value} (hM:Lt M w0) (hv:(RT.en.sl).V M w0 g v0) (ht:((RT.int .i64).sl).V M w0 to v1) (hm:0<m∧m≤1000) (hgl:g.length≤100000):
  Spec Tryz.prog 26 #[v0,v1,.int .i64 (m:Int)] w0 (fun v w=>((RT.en.sl).sl).V M w (qX g (jw to m) m) v∧Step M w0 M w aC):=by
 have kR:=hM;have ET:=ej ht;refine bm (args:=[_,_,_]) (fn:=Tryz.f26) Tryz.func26 rfl (n:=48) Tryz.ntmps26 ?_;have S:Step M w0 M w0 aC:=(ax _ _).cH (fun _ h=>h.elim) (fun _ h=>h.elim);refine aj (ae (ah rfl rfl (ab (aj (ae (ad rfl rfl ?_))))));refine Rg.mk0 M Tryz.underlying51 J1 rfl rfl rfl rfl (by omega) (by omega) (fun bo w1 z1 z1' nE s1=>?_);generalize hMq:ins M bo=Mq at s1;have kC:Mq bo:=by rw[←hMq];exact .inl rfl
 replace hv:=hv.le s1.le;replace ht:=ht.le s1.le;replace hM:=s1.lt hM;have:=S.size;replace S:=S.aB s1;refine ah rfl rfl (ab (aj (aj (ae (ah rfl rfl (ab (aZ ?_)))))));refine dn (σ:=Nat×List Value) (fun q=>[(0,v0),(1,v1),(2,.int .i64 (m:Int)),(7,.slice (some ⟨bo,0,none⟩) m m),(8,.int .i64 (q.1:Int))]) (fun q w=>q.1≤g.length∧q.2.length=m∧∃M1,Lt M1 w∧Step M w0 M1 w aC∧(RT.en.sl).V M1 w g v0∧((RT.int .i64).sl).V M1 w to v1∧M1 bo∧w.heap[bo]? =some (.cells q.2.toArray 29 (0,0))∧nD M1 w w0.heap.size q.2 (fun j=>uE g (jw to m) j q.1)) (fun q=>g.length-q.1) (0,List.replicate m (.slice none 0 0)) (.cons rfl (.cons rfl (.cons rfl (.cons rfl (.cons rfl .nil))))) ?_ ?_
 ·refine⟨bD _,cf ..,_,hM,S,hv,ht,kC,nE,fun j v hj=>?_,fun j j' v v' hj Q7 _=>?_⟩
  ·obtain rfl:=iz (az hj);exact dD _ _ _ _ _
  ·obtain rfl:=iz (az Q7);exact ie.nil _
 ·clear S hv ht hM nE kC;rintro⟨i,vs⟩ w ⟨hi,jV,M1,hM,S,hv,ht,kC,nE,il⟩;dsimp only at hi jV nE il ⊢;refine aj (aj (ae (ad rfl rfl (ad rfl rfl (bQ ez rfl hv rfl (cg rfl rfl rfl (ab ?_)))))));refine bI rfl (fun c3=>?_) (fun c3=>?_)
  ·refine aT (aj (aZ (aj (ae (ah rfl rfl (ab ?_))))));refine T.xl [(0,v0),(1,v1),(2,.int .i64 (m:Int)),(7,.slice (some ⟨bo,0,none⟩) m m),(8,.int .i64 (i:Int)),(9,.int .i64 (to.getD i 0))] ?_ ?_
   ·refine aj (ae (ad rfl rfl (ad rfl rfl ?_)));have hrx:=Cd ht i;refine bQ aq rfl ht rfl (cg rfl rfl rfl (ab ?_));refine bI rfl (fun c6=>?_) (fun c6=>?_)
    ·refine ae (ad rfl rfl (ad rfl rfl ?_));obtain⟨x,A6⟩:∃x,to[i]? =some x:=⟨_,ar (by omega)⟩;refine cF (M:=M1) aq I3 rfl rfl rfl ht (ao _ _) (by omega) (fun u72 y' kA ajg=>?_);rw[ay]at kA;obtain rfl:=aH (A6.symm.trans kA);refine cd (M:=M1) aw rfl rfl ajg (ao _ _) (fun ajh=>?_);refine aU (v':= .int .i64 (to.getD i 0)) (by rw[aA,A6];rfl) ?_;refine ah rfl rfl (ab ?_);exact⟨rfl,rfl,rfl,.cons rfl (.cons rfl (.cons rfl (.cons rfl (.cons rfl (.cons (by first|rfl|exact congrArg (fun z=>some (Value.int .i64 z)) (by rw[aA,dx (by omega)];rfl)) (.nil))))))⟩
    ·refine aT ?_;exact⟨rfl,rfl,rfl,.cons rfl (.cons rfl (.cons rfl (.cons rfl (.cons rfl (.cons (by first|rfl|exact congrArg (fun z=>some (Value.int .i64 z)) (by rw[aA,dx (by omega)];rfl)) (.nil))))))⟩
   ·refine T.xl [(0,v0),(1,v1),(2,.int .i64 (m:Int)),(7,.slice (some ⟨bo,0,none⟩) m m),(8,.int .i64 (i:Int)),(9,.int .i64 (if to.getD i 0<0 then-(to.getD i 0+1)else to.getD i 0))] ?_ ?_
    ·refine aj (ae ?_);have hrx:=Cd ht i;refine ad rfl rfl (cg rfl rfl rfl (ab ?_));refine bI rfl (fun c8=>?_) (fun c8=>?_)
     ·refine ae (ad rfl rfl (bC rfl rfl rfl (by omega) (Rg.neg rfl rfl (by omega) (ah rfl rfl (ab ?_)))));exact⟨rfl,rfl,rfl,.cons rfl (.cons rfl (.cons rfl (.cons rfl (.cons rfl (.cons (by first|exact congrArg (fun z=>some (Value.int .i64 z)) (if_pos c8).symm|exact congrArg (fun z=>some (Value.int .i64 z)) (if_neg c8).symm) (.nil))))))⟩
     ·refine aT ?_;exact⟨rfl,rfl,rfl,.cons rfl (.cons rfl (.cons rfl (.cons rfl (.cons rfl (.cons (by first|exact congrArg (fun z=>some (Value.int .i64 z)) (if_pos c8).symm|exact congrArg (fun z=>some (Value.int .i64 z)) (if_neg c8).symm) (.nil))))))⟩
    ·refine aj (ae ?_);have hrx:=Cd ht i;refine ad rfl rfl (ad rfl rfl (Rg.zw rfl rfl rfl (by split<;>omega) ?_));have Cl:=H3 (to:=to) hm.1 i;obtain⟨k,hk⟩:∃k:Nat,jw to m i=k:=⟨_,rfl⟩;rw[hk]at Cl;refine aU (v':= .int .i64 (k:Int)) (congrArg (Value.int .i64) (by rw[←hk];unfold jw;exact(oH (Int.emod_nonneg _ (by omega))).symm)) ?_;obtain⟨vk,jF⟩:∃v,vs[k]? =some v:=⟨_,ar (by omega)⟩;refine ah rfl rfl (ab ?_);apply T.pH 10 [0,1,2,3,4,5] 2 (fun b=>fK vk b) mixed rfl rfl rfl rfl;intro F6 F7;have gZ:=F7 M1;have:=ak nE;replace kC:=(gZ.mem _ this).2 kC;replace nE:=gZ.aM nE;replace hv:=hv.le gZ.le;replace ht:=ht.le gZ.le;replace il:=il.aL gZ;replace hM:=gZ.lt hM;have:=S.size;replace S:=S.aB gZ;refine ad rfl rfl ?_;refine ab ⟨rfl,rfl,rfl,?_⟩;refine ad rfl rfl ?_;refine ab ⟨rfl,rfl,rfl,?_⟩;refine ad rfl rfl ?_;refine ab ⟨rfl,rfl,rfl,?_⟩;refine ad rfl rfl ?_;refine ab ⟨rfl,rfl,rfl,?_⟩;refine Rg.Fl Tryz.underlying51 J1 rfl rfl rfl (by omega) ?_;refine ab ⟨rfl,rfl,rfl,?_⟩;refine aP ez rfl rfl rfl nE (v:=vk) (by rw[ay,eD];exact jF) ?_;refine ab ⟨rfl,rfl,rfl,?_⟩;refine ad rfl rfl ?_;refine ab ⟨rfl,rfl,rfl,?_⟩;refine ad rfl rfl ?_;refine ab ⟨rfl,rfl,rfl,?_⟩;obtain⟨x,mI⟩:∃x,g[i]? =some x:=⟨_,ar (by omega)⟩;refine cF (M:=M1) ez Cm rfl rfl rfl hv (ao _ _) (by omega) (fun asD y' kA SC=>?_);rw[ay]at kA;obtain rfl:=aH (mI.symm.trans kA);refine ab ⟨rfl,rfl,rfl,?_⟩;refine cN (M:=M1) (A:=RT.en) dS rfl Cm (by decide) rfl rfl rfl SC (ao _ _) (fun asE SD=>?_);refine ab ⟨rfl,rfl,rfl,?_⟩;refine eZ ?_;refine⟨iA ⟨eS,⟨eS,⟨eS,⟨eS,⟨bX.idx,⟨eF rfl nE (fun h=>(il.own k vk jF).eO nE (by decide) h),trivial⟩⟩⟩⟩⟩⟩,?_⟩
     have kp:=jG (fun b=>fK vk b) F6;refine ep (A:=RT.en) (hn:=by decide) (M:=M1) ez Cm (by decide) rfl rfl hM (SD) (.inl rfl) (fun KY TH Ih lD=>?_);have:=ak nE;replace kC:=(lD.mem _ this).2 kC;replace nE:=lD.aM nE;replace hv:=hv.le lD.le;replace ht:=ht.le lD.le;replace il:=il.aL lD;replace hM:=lD.lt hM;have:=S.size;replace S:=S.aB lD;refine(fun(kp:eN _ _ _)=>ab ⟨rfl,rfl,fun _=>kp,?_⟩) (by first|exact kp|exact kp.rF (by assumption)|exact kp.goN (by assumption)|exact kp.go (by assumption) (fun _ _ h=>by first|exact h|exact h.elim));have hdl:=xu (g:=g) (kof:=jw to m) (j:=k) i;refine lN (M:=M1) (base:=w0.heap.size) ez Cm rfl rfl rfl rfl (il.own k vk jF) Ih (ao _ _) (by rw[cI];omega) (by rw[cI];omega) S.size (fun va wa hoa sa hFa=>?_);have Om:=il.grow (f':=fun j=>uE g (jw to m) j (i+1)) jF sa (by show Own _ _ _ _ _ _ (uE g (jw to m) k i++_);rw[if_pos hk,mI];exact hoa) hFa (fun j hj=>by show uE g (jw to m) j i++_=_;rw[if_neg (by omega),ia]);have ngo:=fun c (hc:vk.ownBlock=some c)=>((il.own k vk jF).base c hc).1
     replace kC:=(sa.mem _ (ak nE)).2 kC;replace nE:=sa.keep nE (fun h=>(il.own k vk jF).eO nE (by decide) h);replace hv:=hv.le sa.le;replace ht:=ht.le sa.le;replace S:=S.dg sa (il.own k vk jF) (aN _);replace hM:=sa.lt hM;generalize jv (M1) va=Ma at Om kC hv ht S hM hoa sa;clear il SC SD Ih;have il:=Om;clear Om;refine(fun(kp:eN _ _ _)=>ab ⟨rfl,rfl,fun _=>kp,?_⟩) (kp.go sa (fun b hb h=>h));refine Rg.Fl Tryz.underlying51 J1 rfl rfl rfl (by omega) ?_;refine ab ⟨rfl,rfl,fun h=>absurd rfl h,?_⟩;obtain⟨_,_,aaU,_⟩:=hoa.isSlice;refine cw (M:=Ma) (u:=vk) J1 rfl rfl nE (by rw[ay,eD];exact jF) (by rw[aaU];rfl) kC (fun wb gb sb=>?_);rw[ay,List.setIfInBounds_toArray]at gb;replace il:=il.step sb (fun j v c hj hc (hb:c=bo)=>(il.own j v hj).eO nE (by decide) (hb▸hc));replace hv:=hv.le sb.le;replace ht:=ht.le sb.le;replace kC:=(sb.mem _ (ak nE)).2 kC;replace S:=S.cj sb (fun b (hb:b=bo)=>by omega);replace hM:=sb.lt hM;refine ab ⟨rfl,rfl,fun h=>absurd rfl h,?_⟩;refine mM (ae (ad rfl rfl (bC rfl rfl rfl (by omega) (ah rfl rfl (ab ?_)))));refine⟨rfl,(i+1,vs.set k va),(.cons rfl (.cons rfl (.cons rfl (.cons rfl (.cons rfl .nil))))),?_,?_⟩
     ·exact⟨by dsimp only;omega,by dsimp only;rw[eV];exact jV,_,hM,S,hv,ht,kC,gb,il⟩
     ·dsimp only;omega
  ·refine cK (aj (ae (ad rfl rfl (ah rfl rfl (ab (aQ ?_))))));have e:i=g.length:=by omega
   subst e;have hlen:(qX g (jw to m) m).length=m:=by unfold qX;rw[aG,List.length_range]
   have hV:=Wl (A:=RT.en) (hn:=by decide) (M:=M) nE (fun h=>by have:=kR _ h;omega) (by rw[hlen];exact jV) (fun j v l hj hl=>by
    have Ah:j<m:=by rw[←hlen];exact(an.1 hl).1
    rw[Qq Ah]at hl;obtain rfl:=aH hl;exact(il.own j v hj).close kR S (by have:=xu (g:=g) (kof:=jw to m) (j:=j) g.length;omega)) (by rw[hlen];omega)
   rw[hlen]at hV;exact aV rfl rfl ⟨hV,S.back⟩
end Go.K
namespace Go.K
open Go.Proofs
set_option maxRecDepth 10000
theorem kK.snoc {M:aD} {w:World} {g:Gs} {bs:List Nat} {L:List En} {a:List Bool} {b:Nat} (h:kK M w g bs) (hb:Er M w a b):kK M w (g++[(L,a)]) (bs++[b]):=⟨by rw[bc,bc,h.1];rfl,fun i b' p h1 h2=>by
 have hl:=h.1;rcases cG i g.length with hi|hi
 ·rw[fC (by omega)]at h1;rw[fC hi]at h2;exact h.2 i b' p h1 h2
 ·rw[jB (by omega)]at h1;rw[jB hi]at h2
  have h0:i-g.length=0:=by
   rcases Nat.eq_zero_or_pos (i-g.length)with h|h
   ·exact h
   ·rw[dx (by rw[cI];exact h)]at h2;cases h2
  rw[hl,h0]at h1;rw[h0]at h2;simp only[List.getElem?_cons_zero,dN]at h1 h2;subst h1;subst h2;exact hb⟩
theorem kK.nil {M:aD} {w:World}:kK M w [] []:=⟨rfl,fun i b p h1 _=>by simp at h1⟩
theorem pA (Ls:List (List En)):(zR Ls).length=Ls.length:=by unfold zR;rw[aG]
theorem EN (Ls:List (List En)) (L:List En):zR (Ls++[L])=zR Ls++[(L,List.replicate L.length true)]:=by unfold zR;rw[cX];rfl
theorem QR (Ls:List (List En)):(zR Ls).map (·.1)=Ls:=by unfold zR;rw[sk];exact List.map_id Ls
theorem Wm {g:List En} {kof:Nat→Nat} {m:Nat} (h:qU (-1) g=true):∀L∈qX g kof m,qU (-1) L=true∧L.length≤g.length∧∀e∈L,e∈g:=fun L hL=>by
 unfold qX at hL;obtain⟨j,_,rfl⟩:=bP.1 hL;exact⟨VD h _,xu _,fun e he=>by obtain⟨i,_,_,h3⟩:=nh.1 he;exact az h3⟩
theorem QS (g:List En) (kof:Nat→Nat) (m:Nat):(qX g kof m).length=m:=by unfold qX;rw[aG,List.length_range]
theorem EO {M:aD} {Ls:List (List En)} {bs:List Nat} {v0 v1:Value} {w0:World} (hM:Lt M w0) (hs:(((RT.se).ptr).sl).V M w0 ((zR Ls).map fun p=>pq (fk p.1)) v0) (hb:(RT.JU.sl).V M w0 bs v1) (cM:kK M w0 (zR Ls) bs) (hok:∀L∈Ls,qU (-1) L=true) (hn:∀L∈Ls,L.length≤100) (hl:Ls.length≤100) (uD:Ls.flatten.Pairwise fun x y=>x.2≠y.2) (h0: ¬M 1) (GN:∃e fr,w0.heap[1]? =some (.cells (IC.map fun(k:Nat)=>Value.int .u8 (k:Int)).toArray e fr)):
  Spec Tryz.prog 22 #[v0,v1] w0 (fun v w=>∃s E,v= .tuple #[s,.int .i64 0]∧cQ RT.se M w s (pq (fk E))∧qU (-1) E=true∧(∀e,e∈E↔∃L∈Ls,e∈L)∧Step M w0 M w aC):=by
 refine(G1 (g:=zR Ls) (bs:=bs) hM hs hb cM (Sa hok) (by rw[pA];exact hl) (fun p hp=>?_) (fun p hp=>?_) h0 GN).mono fun v w ⟨s,h⟩=>?_
 ·unfold zR at hp;obtain⟨L,hL,rfl⟩:=bP.1 hp;exact dW (hn L hL) (by decide)
 ·unfold zR at hp;obtain⟨L,hL,rfl⟩:=bP.1 hp;have h1:=JP (hok L hL);have h2:=hn L hL;show(keysOf L).length≤_;omega
 ·obtain⟨os,E,EV,sg,rfl,x9⟩:=h.resolve_right (fun h=>AX (by rw[QR];exact uD) h.1);exact⟨sg,E,rfl,x9,EV.ok (Sa hok),fun e=>Qp EV,s⟩
end Go.K
namespace Go.K
open Go.Proofs
namespace TKCounts11
theorem J7:TI Tryz.prog 25 (.pointer none) 1 8:=by unfold TI;kernel_rfl
theorem J1:TI Tryz.prog 29 (.slice none 0 0) 1 24:=by unfold TI;kernel_rfl
theorem Qu:TI Tryz.prog 47 (.pointer none) 1 8:=by unfold TI;kernel_rfl
theorem E11:Enters Tryz.prog 11:=enters Tryz.func11 rfl (by decide)
theorem E12:Enters Tryz.prog 12:=enters Tryz.func12 rfl (by decide)
theorem E20:Enters Tryz.prog 20:=enters Tryz.func20 rfl (by decide)
theorem E22:Enters Tryz.prog 22:=enters Tryz.func22 rfl (by decide)
theorem E23:Enters Tryz.prog 23:=enters Tryz.func23 rfl (by decide)
theorem E25:Enters Tryz.prog 25:=enters Tryz.func25 rfl (by decide)
theorem E26:Enters Tryz.prog 26:=enters Tryz.func26 rfl (by decide)
theorem VF:Enters Tryz.prog 34:=enters Tryz.func34 rfl (by decide)
theorem E35:Enters Tryz.prog 35:=enters Tryz.func35 rfl (by decide)
theorem E36:Enters Tryz.prog 36:=enters Tryz.func36 rfl (by decide)
end TKCounts11
open TKCounts11
set_option maxRecDepth 10000
theorem uB {α:Type}:∀l:List α,l.length=(l.map fun _=>1).sum
 |[]=>rfl
 |x::l=>by rw[cD,dQ,List.sum_cons,uB l];omega
def cL (c:Po→Nat) (Ls:List (List En)) (k:List UInt8):Nat:=(Ls.map fun L=>((pk L k).map c).sum).sum
theorem Ii {c:Po→Nat} {Ls:List (List En)} {k:List UInt8} {i:Nat} {L:List En} (h:Ls[i]? =some L):cL c (Ls.take (i+1)) k=cL c (Ls.take i) k+((pk L k).map c).sum:=by
 unfold cL;rw[bV,h,cE,cX,oI];simp
theorem Ce {α:Type} {c:α→Nat} {B:Nat}:∀{l:List α},(∀x∈l,c x≤B)→(l.map c).sum≤B*l.length
 |[],_=>by simp
 |x::l,h=>by
  have h1:=Ce (c:=c) (B:=B) (l:=l) fun y hy=>h y (bU _ hy)
  have h2:=h x (bG ..);rw[dQ,List.sum_cons,cD,Nat.mul_add];omega
theorem Cf {g:List En} {kof:Nat→Nat} (hk:∀i,kof i<3) {c:Po→Nat} (hc:∀i j ps,c (i,ps)=c (j,ps)) (k:List UInt8):cL c (qX g kof 3) k=((pk g k).map c).sum:=by
 have e:cL c (qX g kof 3) k=((pk (uE g kof 0 g.length) k).map c).sum+((pk (uE g kof 1 g.length) k).map c).sum+((pk (uE g kof 2 g.length) k).map c).sum:=by
  have e1:qX g kof 3=[uE g kof 0 g.length,uE g kof 1 g.length,uE g kof 2 g.length]:=rfl;unfold cL;rw[e1];simp;omega
 rw[e];unfold pk;rw[ug hc,ug hc,ug hc,ug hc,NM _ hk _ (aN _),List.take_length]
abbrev c1:Po→Nat:=fun _=>1
abbrev c2:Po→Nat:=fun p=>p.2.length
theorem Cg {L:List En} (h:qU (-1) L=true) (hn:L.length≤10) (k:List UInt8):(pk L k).length≤10∧(∀p∈pk L k,p.2.length≤500)∧((pk L k).map c1).sum≤10∧((pk L k).map c2).sum≤5000:=by
 have h1:=pf k L 0 (jL h);have h2:(pk L k).length≤10:=dW h1.1 hn;have h3:∀p∈pk L k,p.2.length≤500:=fun p hp=>(h1.2 p hp).2.2
 refine⟨h2,h3,by rw[show((pk L k).map c1).sum=(pk L k).length from(uB _).symm];exact h2,?_⟩;have:=Ce (c:=c2) (B:=500) (l:=pk L k) h3;omega
theorem On {c:Po→Nat} {Ls:List (List En)} {k:List UInt8} {B:Nat} (h:∀L∈Ls,((pk L k).map c).sum≤B):cL c Ls k≤B*Ls.length:=Ce h
theorem EP {α:Type} {c:α→Nat} {l:List α} {i:Nat} {x:α} (h:l[i]? =some x):((l.take (i+1)).map c).sum=((l.take i).map c).sum+c x:=by
 rw[bV,h,cE,cX,oI];simp
theorem ER {α:Type} {c:α→Nat} {l:List α} (i:Nat):((l.take i).map c).sum≤(l.map c).sum:=by
 have h:((l.take i).map c).sum+((l.drop i).map c).sum=(l.map c).sum:=by rw[←oI,←cX,l4]
 omega
set_option maxHeartbeats 4000000 in
theorem vM {M:aD} {l:List Dc} {to:List Int} {t:Fd} {v0 v1 v2:Value} {w0:World} (hM:Lt M w0) (hv:(RT.dc.sl).V M w0 l v0) (ht:((RT.int .i64).sl).V M w0 to v1) (Hi:RT.fd.V M w0 t v2) (h0: ¬M 1) (GN:∃e fr,w0.heap[1]? =some (.cells (IC.map fun(k:Nat)=>Value.int .u8 (k:Int)).toArray e fr)):
  Spec Tryz.prog 7 #[v0,v1,v2] w0 (fun v w=>v= .bool true∧Step M w0 M w aC):=by
 have kR:=hM;obtain⟨etb,ftb,htb⟩:=GN;have hgl:=l1 l 0 1 10;obtain⟨hok,_⟩:=D9 l (show(0:Int)≤0 by decide) (show(1:Int)≤1 by decide) 10;obtain⟨asH,asI⟩:=Ll Hi;have hku:=fun i=>H3 (to:=to) (show 0<3 by decide) i
 have hLs:=Wm (kof:=jw to 3) (m:=3) hok;have hLl:=QS (dL l 0 1 10) (jw to 3) 3;have uD:(qX (dL l 0 1 10) (jw to 3) 3).flatten.Pairwise fun x y=>x.2≠y.2:=NL (vC hok) (List.range 3) List.nodup_range
 have Pj:∀i,cL c1 ((qX (dL l 0 1 10) (jw to 3) 3).take i) (dy t)≤10*3:=fun i=>dW (On (B:=10) fun L hL=>by have h:=hLs L (wL hL);exact(Cg h.1 (by omega) _).2.2.1) (zi _ (by rw[bg];omega))
 have Hr:∀i,cL c2 ((qX (dL l 0 1 10) (jw to 3) 3).take i) (dy t)≤5000*3:=fun i=>dW (On (B:=5000) fun L hL=>by have h:=hLs L (wL hL);exact(Cg h.1 (by omega) _).2.2.2) (zi _ (by rw[bg];omega))
 refine bm (args:=[_,_,_]) (fn:=Tryz.f7) Tryz.func7 rfl (n:=128) Tryz.ntmps7 ?_;have S:Step M w0 M w0 aC:=(ax _ _).cH (fun _ h=>h.elim) (fun _ h=>h.elim);refine aj (ae ?_);refine nP (A:=RT.fd) (a:=t) rfl rfl hM Hi rfl (fun u5 wb1 jy sb1 _=>?_);replace hv:=hv.le sb1.le;replace ht:=ht.le sb1.le;replace Hi:=Hi.le sb1.le;replace hM:=sb1.lt hM;have:=S.size;replace S:=S.aB sb1;refine ah rfl rfl (ab (aj (ae (ad rfl rfl ?_))));refine aY rfl rfl E12 (FK (most:=10) (a:=0) (s:=1) _ hM hv (by decide) (by decide) (by decide)) (fun r1 w1 hc=>?_);obtain⟨hg,s1⟩:=hc;replace hv:=hv.le s1.le;replace ht:=ht.le s1.le;replace jy:=jy.le (by decide) s1.le;replace hM:=s1.lt hM;have:=S.size;replace S:=S.aB s1;refine ad rfl rfl ?_;refine aY rfl rfl E26 (EM hM hg ht (m:=3) (by decide) (by omega)) (fun r2 w2 hc=>?_);obtain⟨nH,s2⟩:=hc;replace ht:=ht.le s2.le;replace jy:=jy.le (by decide) s2.le;replace hg:=hg.le s2.le;replace hM:=s2.lt hM;have:=S.size;replace S:=S.aB s2;refine ah rfl rfl (ab (aj (ae (ah rfl rfl (ab (aj (ae (ah rfl rfl (ab (aj (ae ?_)))))))))));refine ah rfl rfl (ab (aj (ae (ah rfl rfl (ab (aj (aj (ae (ah rfl rfl (ab (aZ ?_)))))))))));refine dn (σ:=Nat×Value×Value×List Nat) (fun q=>[(5,u5),(7,r2),(8,q.2.1),(9,q.2.2.1),(10,.int .i64 ((cL c1 ((qX (dL l 0 1 10) (jw to 3) 3).take q.1) (dy t):Nat):Int)),(11,.int .i64 ((cL c2 ((qX (dL l 0 1 10) (jw to 3) 3).take q.1) (dy t):Nat):Int)),(12,.int .i64 (q.1:Int))]) (fun q w=>q.1≤3∧∃M1,Lt M1 w∧Step M w0 M1 w aC∧cQ RT.fd M1 w u5 t∧((RT.en.sl).sl).V M1 w (qX (dL l 0 1 10) (jw to 3) 3) r2∧kK M1 w (zR ((qX (dL l 0 1 10) (jw to 3) 3).take q.1)) q.2.2.2∧Own ((RT.se).ptr) 25 M1 w w0.heap.size q.2.1 ((zR ((qX (dL l 0 1 10) (jw to 3) 3).take q.1)).map fun p=>pq (fk p.1))∧Own RT.JU 47 M1 w w0.heap.size q.2.2.1 q.2.2.2) (fun q=>3-q.1) (0,.slice none 0 0,.slice none 0 0,[]) (.cons rfl (.cons rfl (.cons rfl (.cons rfl (.cons rfl (.cons rfl (.cons rfl .nil))))))) ?_ ?_
 ·exact⟨bD _,_,hM,S,jy,nH,kK.nil,dD _ _ _ _ _,dD _ _ _ _ _⟩
 ·clear hM S jy nH;rintro⟨i,vs,vb,bs⟩ w ⟨hi,M1,hM,S,jy,nH,cM,jc,jU⟩;dsimp only at hi cM jc jU ⊢;have kE:=cM.1;refine aj (aj (ae (ad rfl rfl (cg rfl rfl rfl (ab ?_)))));refine bI rfl (fun c7=>?_) (fun c7=>?_)
  ·refine aT (aj (aZ (aj (ae (ad rfl rfl (ad rfl rfl ?_))))));obtain⟨L,R6⟩:∃L,(qX (dL l 0 1 10) (jw to 3) 3)[i]? =some L:=⟨_,ar (by omega)⟩;obtain⟨hL1,hL2,hL3⟩:=hLs L (az R6);obtain⟨rH,jT,ajk,ajl⟩:=Cg hL1 (by omega) (dy t);have asK:=Ii (c:=c1) (k:=dy t) R6;have ajm:=Ii (c:=c2) (k:=dy t) R6;have uW:=Pj (i+1);have Aa:=Hr (i+1);refine cF (M:=M1) Tryz.underlying51 J1 rfl rfl rfl nH (ao _ _) (by omega) (fun u82 x_ kA aaX=>?_);rw[ay]at kA;obtain rfl:=aH (R6.symm.trans kA);refine bR (M:=M1) ez rfl rfl rfl rfl rfl aaX (ao _ _) (fun v83 aaY=>?_);refine aY rfl rfl E11 (GA _ hM aaY (fun e he f hf=>GC e (hL3 e he) f hf) (by omega) hL1) (fun rb9 wb9 hc=>?_);obtain⟨sa9,rfl,Ch,Wn⟩:=hc;obtain⟨aa9,rfl⟩:=Ch.ij;clear aaX aaY;replace jy:=jy.le (by decide) Wn.le;replace nH:=nH.le Wn.le;replace cM:=cM.le Wn.le;replace jc:=jc.aL Wn;replace jU:=jU.aL Wn;replace hM:=Wn.lt hM;have:=S.size;replace S:=S.aB Wn;refine ad rfl rfl (bZ rfl rfl rfl (bZ rfl rfl rfl (ah rfl rfl (ah rfl rfl (ab (aj (aj (ae (ad rfl rfl (Rg.KF jf rfl rfl rfl (ab ?_)))))))))));refine T.wO rfl ((by simp)) (aT (aj (ae (ad rfl rfl (ad rfl rfl ?_)))));refine ep (A:=((RT.se).ptr)) (hn:=by decide) (M:=M1) eT J7 (by decide) rfl rfl hM (nf.2 Ch) (.inr ⟨rfl,rfl⟩) (fun amX amY k7 wJ=>?_);replace jy:=jy.le (by decide) wJ.le;replace nH:=nH.le wJ.le;replace cM:=cM.le wJ.le;replace Ch:=Ch.le (by decide) wJ.le;replace jc:=jc.aL wJ;replace jU:=jU.aL wJ;replace hM:=wJ.lt hM;have:=S.size;replace S:=S.aB wJ;refine dd (M:=M1) (base:=w0.heap.size) eT J7 rfl rfl rfl rfl jc k7 (ao _ _) (by rw[aG,pA,bg,cI];omega) (by rw[aG,pA,bg,cI];omega) (S.size) (fun C6 SE Rk Wo j6=>?_)
   replace jy:=jy.le (by decide) j6.le;replace nH:=nH.le j6.le;replace cM:=cM.le j6.le;replace Ch:=Ch.le (by decide) j6.le;replace k7:=k7.le j6.le;replace jU:=jU.step j6 (fun b h1 h2=>jU.dz jc (by decide) h1 h2);replace hM:=j6.lt hM;have:=S.size;replace S:=S.dg j6 jc (aN _);replace jc:=Wo;refine ah rfl rfl (ab (aj (ae (ad rfl rfl (ad rfl rfl ?_)))));refine aY rfl rfl VF (vv _ Ch) (fun asL asM hc=>?_);obtain⟨rfl,rfl⟩:=hc;refine aU (v':= .int .i64 (L.length:Int)) (by show Value.int .i64 (((L.map _).length:Nat):Int)=_;rw[aG]) ?_;refine aY rfl rfl E23 (G9 hM (n:=L.length) (by omega)) (fun asN asO hc=>?_);obtain⟨Oo,rfl,uC,Ci⟩:=hc;replace jy:=jy.le (by decide) Ci.le;replace nH:=nH.le Ci.le;replace cM:=cM.le Ci.le;replace Ch:=Ch.le (by decide) Ci.le;replace k7:=k7.le Ci.le;replace jc:=jc.aL Ci;replace jU:=jU.aL Ci;replace hM:=Ci.lt hM;have:=S.size;replace S:=S.aB Ci;refine ep (A:=RT.JU) (hn:=by decide) (M:=SE) Tryz.underlying49 Qu (by decide) rfl rfl hM (Hn.2 rfl) (.inr ⟨rfl,rfl⟩) (fun fO LH kS eh=>?_);replace jy:=jy.le (by decide) eh.le;replace nH:=nH.le eh.le;replace cM:=cM.le eh.le;replace Ch:=Ch.le (by decide) eh.le;replace k7:=k7.le eh.le;replace uC:=uC.le eh.le;replace jc:=jc.aL eh;replace jU:=jU.aL eh;replace hM:=eh.lt hM;have:=S.size;replace S:=S.aB eh;refine dd (M:=SE) (base:=w0.heap.size) Tryz.underlying49 Qu rfl rfl rfl rfl jU kS (ao _ _) (by rw[kE,pA,bg,cI];omega) (by rw[kE,pA,bg,cI];omega) (S.size) (fun EH A2 aap G2 jA=>?_);replace jy:=jy.le (by decide) jA.le;replace nH:=nH.le jA.le;replace cM:=cM.le jA.le;replace Ch:=Ch.le (by decide) jA.le
   replace k7:=k7.le jA.le;replace uC:=uC.le jA.le;replace kS:=kS.le jA.le;replace jc:=jc.step jA (fun b h1 h2=>jc.dz jU (by decide) h1 h2);replace hM:=jA.lt hM;have:=S.size;replace S:=S.dg jA jU (aN _);replace jU:=G2;refine ah rfl rfl (ab (aj (ae (ad rfl rfl (ad rfl rfl ?_)))));refine cN (M:=A2) (A:=RT.fd) ck rfl xX (by decide) rfl rfl rfl jy (ao _ _) (fun ajn aaZ=>?_);obtain rfl:ajn=kv t:=nw aaZ;refine aY rfl rfl E35 (wF (ls:=(keysOf L).map (pk L)) (t:=t) _ hM Ch (iX _) (N5 _) (GZ _) (by omega) (by omega)) (fun asP asQ hc=>?_);obtain⟨rfl,zf⟩:=hc;have ajo:HW (pq (fk L)).2.2.1 ((keysOf L).map (pk L)) (dy t)=pk L (dy t):=yN _;rw[ajo];refine aU (v':= .int .i64 ((((pk L (dy t)).map c1).sum:Nat):Int)) (congrArg (fun z:Nat=>Value.int .i64 (z:Int)) (uB _)) ?_;replace jy:=jy.le (by decide) zf.le;replace nH:=nH.le zf.le;replace cM:=cM.le zf.le;replace Ch:=Ch.le (by decide) zf.le;replace k7:=k7.le zf.le;replace uC:=uC.le zf.le;replace kS:=kS.le zf.le;replace jc:=jc.aL zf;replace jU:=jU.aL zf;replace hM:=zf.lt hM;have:=S.size;replace S:=S.aB zf;refine bC rfl rfl rfl (by omega) (aU (v':= .int .i64 ((cL c1 ((qX (dL l 0 1 10) (jw to 3) 3).take (i+1)) (dy t):Nat):Int)) (congrArg (Value.int .i64) (by omega)) (ah rfl rfl (ab (aj (ae (ad rfl rfl ?_))))));refine aK (M:=A2) (A:=RT.fd) (B:=RT.str) ck rfl rfl I9 (by decide) Pn rfl rfl (by decide) jy (ao _ _) (fun asR aa0=>?_);refine bR (M:=A2) aF rfl rfl rfl rfl rfl aa0 (ao _ _) (fun v152 aa1=>?_);obtain rfl:=fF aa1;refine Rg.cat (p:=t.1) (q:=[0]) rfl rfl rfl (by simp;omega) ?_;refine aK (M:=A2) (A:=RT.fd) (B:=RT.str) ck rfl rfl I9 (by decide) WC rfl rfl (by decide) jy (ao _ _) (fun asS aa2=>?_)
   refine bR (M:=A2) aF rfl rfl rfl rfl rfl aa2 (ao _ _) (fun asT aa3=>?_);obtain rfl:=fF aa3;refine Rg.cat (p:=t.1++[0]) (q:=t.2) rfl rfl rfl (by simp;omega) ?_;refine aY rfl rfl E36 (tg (ls:=(keysOf L).map (pk L)) (k:=dy t) _ hM Ch (iX _) (B6 hL1 (by omega))) (fun r15 aio hc=>?_);obtain⟨Ha,pU⟩:=hc;have WR:HW (pq (fk L)).2.2.1 ((keysOf L).map (pk L)) (dy t)=pk L (dy t):=yN _;rw[WR]at Ha;replace jy:=jy.le (by decide) pU.le;replace nH:=nH.le pU.le;replace cM:=cM.le pU.le;replace Ch:=Ch.le (by decide) pU.le;replace k7:=k7.le pU.le;replace uC:=uC.le pU.le;replace kS:=kS.le pU.le;replace jc:=jc.aL pU;replace jU:=jU.aL pU;replace hM:=pU.lt hM;have:=S.size;replace S:=S.aB pU;refine ah rfl rfl (ab (aj (ae (ah rfl rfl (ab (aZ ?_))))));refine dn (σ:=Nat) (fun q=>[(5,u5),(7,r2),(8,C6),(9,EH),(10,.int .i64 ((cL c1 ((qX (dL l 0 1 10) (jw to 3) 3).take (i+1)) (dy t):Nat):Int)),(11,.int .i64 ((cL c2 ((qX (dL l 0 1 10) (jw to 3) 3).take i) (dy t)+(((pk L (dy t)).take q).map c2).sum:Nat):Int)),(12,.int .i64 (i:Int)),(15,r15),(16,.int .i64 (q:Int))]) (fun q w=>q≤(pk L (dy t)).length∧∃M1,Lt M1 w∧Step M w0 M1 w aC∧cQ RT.fd M1 w u5 t∧((RT.en.sl).sl).V M1 w (qX (dL l 0 1 10) (jw to 3) 3) r2∧kK M1 w (zR ((qX (dL l 0 1 10) (jw to 3) 3).take (i+1))) (bs++[Oo])∧(RT.po.sl).V M1 w (pk L (dy t)) r15∧Own ((RT.se).ptr) 25 M1 w w0.heap.size C6 ((zR ((qX (dL l 0 1 10) (jw to 3) 3).take (i+1))).map fun p=>pq (fk p.1))∧Own RT.JU 47 M1 w w0.heap.size EH (bs++[Oo])) (fun q=>(pk L (dy t)).length-q) 0 (.cons rfl (.cons rfl (.cons rfl (.cons rfl (.cons rfl (.cons rfl (.cons rfl (.cons rfl (.cons rfl .nil))))))))) ?_ ?_
   ·refine⟨bD _,_,hM,S,jy,nH,?_,Ha,?_,jU⟩
    ·rw[bV,R6,cE,EN];exact cM.snoc uC
    ·rw[bV,R6,cE,EN,cX];exact jc
   ·clear hM S jy nH cM Ha jc jU;rintro k w ⟨hk,M2,hM,S,jy,nH,cM,Ha,jc,jU⟩;refine aj (aj (ae (ad rfl rfl (ad rfl rfl (bQ bA rfl Ha rfl (cg rfl rfl rfl (ab ?_)))))));refine bI rfl (fun c17=>?_) (fun c17=>?_)
    ·refine aT (aj (aZ (ae (ad rfl rfl (ad rfl rfl (ad rfl rfl ?_))))));obtain⟨x,Hv⟩:∃x,(pk L (dy t))[k]? =some x:=⟨_,ar (by omega)⟩;have WE:=EP (c:=c2) Hv;have qd:=jT x (az Hv);have SL:=ER (c:=c2) (l:=pk L (dy t)) (k+1);refine cF (M:=M2) bA nW rfl rfl rfl Ha (ao _ _) (by omega) (fun asV y' kA aa4=>?_);rw[ay]at kA;obtain rfl:=aH (Hv.symm.trans kA);refine aK (M:=M2) (A:=RT.po) (B:=(RT.int .i64).sl) bS rfl rfl kD (by decide) Tp rfl rfl (by decide) aa4 (ao _ _) (fun asW aa5=>?_);refine bR (M:=M2) aq rfl rfl rfl rfl rfl aa5 (ao _ _) (fun asX aa6=>?_);refine bQ aq rfl aa6 rfl (bC rfl rfl rfl (by omega) (aU (v':= .int .i64 ((cL c2 ((qX (dL l 0 1 10) (jw to 3) 3).take i) (dy t)+(((pk L (dy t)).take (k+1)).map c2).sum:Nat):Int)) (congrArg (Value.int .i64) (by have:c2 x=x.2.length:=rfl;omega)) (ah rfl rfl (ab (ae (ad rfl rfl (bC rfl rfl rfl (by omega) (ah rfl rfl (ab ?_)))))))));refine⟨rfl,k+1,(.cons rfl (.cons rfl (.cons rfl (.cons rfl (.cons rfl (.cons rfl (.cons rfl (.cons rfl (.cons rfl .nil))))))))),?_,?_⟩
     ·exact⟨by omega,_,hM,S,jy,nH,cM,Ha,jc,jU⟩
     ·omega
    ·refine cK (ae (ad rfl rfl (bC rfl rfl rfl (by omega) (ah rfl rfl (ab ?_)))));refine⟨rfl,(i+1,C6,EH,bs++[Oo]),(.cons rfl (.cons rfl (.cons rfl (.cons rfl (.cons rfl (.cons (congrArg (fun z:Nat=>some (Value.int .i64 (z:Int))) (by have e_:(pk L (dy t)).take k=pk L (dy t):=aW (by omega);show cL c2 _ _+(((pk L (dy t)).take k).map c2).sum=_;rw[e_];exact ajm.symm)) (.cons rfl .nil))))))),?_,?_⟩
     ·refine⟨by dsimp only;omega,_,hM,S,jy,nH,cM,jc,jU⟩
     ·dsimp only;omega
  ·refine cK (aj (ae ?_));have e3:i=3:=by omega
   subst e3;rw[aW (by omega)]at cM jc;refine ad rfl rfl ?_;have jS:=jc.view (hn:=by decide) (by rw[aG,pA];omega);replace jy:=jy.le (by decide) (eK _ vs _);replace nH:=nH.le (eK _ vs _);replace cM:=cM.le (eK _ vs _);replace jU:=jU.Jy (v:=vs) (fun b hb=>by first|exact jU.dz jc (by decide) hb|exact Wp b hb);replace hM:Lt (rm M1 vs) _:=fun b hb=>hM b hb.1
   replace S:=S.freeze (v:=vs) (fun b hb=>by have:=(jc.base b hb).1;omega);clear jc;have J2:=jU.view (hn:=by decide) (by rw[cM.1,pA];omega);replace jy:=jy.le (by decide) (eK _ vb _);replace nH:=nH.le (eK _ vb _);replace cM:=cM.le (eK _ vb _);replace jS:=jS.le (eK _ vb _);replace hM:Lt (rm (rm M1 vs) vb) _:=fun b hb=>hM b hb.1
   replace S:=S.freeze (v:=vb) (fun b hb=>by have:=(jU.base b hb).1;omega);clear jU;refine ad rfl rfl ?_;refine aY rfl rfl E22 (EO (Ls:=(qX (dL l 0 1 10) (jw to 3) 3)) hM jS J2 cM (fun L hL=>(hLs L hL).1) (fun L hL=>by have:=(hLs L hL).2.1;omega) (by omega) uD (fun hn=>h0 ((S.mem 1 (ak htb)).1 hn)) ⟨etb,ftb,S.aM htb⟩) (fun r20 w20 hc=>?_);obtain⟨asY,E20,rfl,vN,ajp,ajq,Wq⟩:=hc;obtain rfl:E20=(dL l 0 1 10):=Qn (vC ajp) (vC hok) (fun e=>(ajq e).trans (Qr hku));obtain⟨aa7,rfl⟩:=vN.ij;replace jy:=jy.le (by decide) Wq.le;replace nH:=nH.le Wq.le;replace cM:=cM.le Wq.le;replace jS:=jS.le Wq.le;replace J2:=J2.le Wq.le;replace hM:=Wq.lt hM;have:=S.size;replace S:=S.aB Wq;refine ad rfl rfl (bZ rfl rfl rfl (bZ rfl rfl rfl (ah rfl rfl (ah rfl rfl (ab (aj (aj (ae (ad rfl rfl (Rg.KF jf rfl rfl rfl (ad rfl rfl ?_)))))))))));refine Rg.E1 (g:=84) rfl ((by simp)) (al rfl rfl (ad rfl rfl (al rfl rfl (fD rfl rfl rfl (aU (v':= .bool false) (by simp) (aE rfl rfl rfl (ab (jt rfl (aT (aj (ae ?_)))))))))));obtain⟨rH,jT,ajk,ajl⟩:=Cg hok (by omega) (dy t);have ajr:=Hr 3;rw[aW (by omega)]at ajr;have ajs:=Pj 3;rw[aW (by omega)]at ajs;refine ad rfl rfl ?_;refine aK (M:=rm (rm M1 vs) vb) (A:=RT.fd) (B:=RT.str) ck rfl rfl I9 (by decide) Pn rfl rfl (by decide) jy (ao _ _) (fun asZ aa8=>?_);refine bR (M:=rm (rm M1 vs) vb) aF rfl rfl rfl rfl rfl aa8 (ao _ _) (fun v232 aba=>?_);obtain rfl:=fF aba;refine Rg.cat (p:=t.1) (q:=[0]) rfl rfl rfl (by simp;omega) ?_;refine aK (M:=rm (rm M1 vs) vb) (A:=RT.fd) (B:=RT.str) ck rfl rfl I9 (by decide) WC rfl rfl (by decide) jy (ao _ _) (fun as0 abb=>?_);refine bR (M:=rm (rm M1 vs) vb) aF rfl rfl rfl rfl rfl abb (ao _ _) (fun as1 abc=>?_)
   obtain rfl:=fF abc;refine Rg.cat (p:=t.1++[0]) (q:=t.2) rfl rfl rfl (by simp;omega) ?_;refine aY rfl rfl E36 (tg (ls:=(keysOf (dL l 0 1 10)).map (pk (dL l 0 1 10))) (k:=dy t) _ hM vN (iX _) (B6 hok (by omega))) (fun r23 as2 hc=>?_);obtain⟨xf,F9⟩:=hc;have e23:HW (pq (fk (dL l 0 1 10))).2.2.1 ((keysOf (dL l 0 1 10)).map (pk (dL l 0 1 10))) (dy t)=pk (dL l 0 1 10) (dy t):=yN _;rw[e23]at xf;replace jy:=jy.le (by decide) F9.le;replace vN:=vN.le (by decide) F9.le;replace hM:=F9.lt hM;have:=S.size;replace S:=S.aB F9;refine ah rfl rfl (ab (aj (aj (ae (ah rfl rfl (ab (aZ ?_)))))));refine dn (σ:=Nat) (fun q=>[(5,u5),(10,.int .i64 ((cL c1 (qX (dL l 0 1 10) (jw to 3) 3) (dy t):Nat):Int)),(11,.int .i64 (((cL c2 (qX (dL l 0 1 10) (jw to 3) 3) (dy t):Nat):Int)-((((pk (dL l 0 1 10) (dy t)).take q).map c2).sum:Nat))),(17,.pointer (some aa7)),(19,r23),(20,.int .i64 (q:Int))]) (fun q w=>q≤(pk (dL l 0 1 10) (dy t)).length∧∃M1,Lt M1 w∧Step M w0 M1 w aC∧cQ RT.fd M1 w u5 t∧cQ RT.se M1 w (.pointer (some aa7)) (pq (fk (dL l 0 1 10)))∧(RT.po.sl).V M1 w (pk (dL l 0 1 10) (dy t)) r23) (fun q=>(pk (dL l 0 1 10) (dy t)).length-q) 0 (.cons rfl (.cons (congrArg (fun z:List (List En)=>some (Value.int .i64 ((cL c1 z (dy t):Nat):Int))) (aW (by omega))) (.cons (congrArg (fun z:Int=>some (Value.int .i64 z)) (by rw[aW (by omega)];simp)) (.cons rfl (.cons rfl (.cons rfl .nil)))))) ?_ ?_
   ·exact⟨bD _,_,hM,S,jy,vN,xf⟩
   ·clear hM S jy vN xf;rintro k w ⟨hk,M3,hM,S,jy,vN,xf⟩;refine aj (aj (ae (ad rfl rfl (ad rfl rfl (bQ bA rfl xf rfl (cg rfl rfl rfl (ab ?_)))))));refine bI rfl (fun c25=>?_) (fun c25=>?_)
    ·refine aT (aj (aZ (ae (ad rfl rfl (ad rfl rfl (ad rfl rfl ?_))))));obtain⟨x,Hv⟩:∃x,(pk (dL l 0 1 10) (dy t))[k]? =some x:=⟨_,ar (by omega)⟩;have WE:=EP (c:=c2) Hv;have qd:=jT x (az Hv);have SL:=ER (c:=c2) (l:=pk (dL l 0 1 10) (dy t)) (k+1);refine cF (M:=M3) bA nW rfl rfl rfl xf (ao _ _) (by omega) (fun as4 y' kA abd=>?_);rw[ay]at kA;obtain rfl:=aH (Hv.symm.trans kA);refine aK (M:=M3) (A:=RT.po) (B:=(RT.int .i64).sl) bS rfl rfl kD (by decide) Tp rfl rfl (by decide) abd (ao _ _) (fun as5 abe=>?_);refine bR (M:=M3) aq rfl rfl rfl rfl rfl abe (ao _ _) (fun as6 abf=>?_);refine bQ aq rfl abf rfl (fq rfl rfl rfl (by omega) (aU (v':= .int .i64 (((cL c2 (qX (dL l 0 1 10) (jw to 3) 3) (dy t):Nat):Int)-((((pk (dL l 0 1 10) (dy t)).take (k+1)).map c2).sum:Nat))) (congrArg (Value.int .i64) (by have:c2 x=x.2.length:=rfl;omega)) (ah rfl rfl (ab (ae (ad rfl rfl (bC rfl rfl rfl (by omega) (ah rfl rfl (ab ?_)))))))));refine⟨rfl,k+1,(.cons rfl (.cons rfl (.cons rfl (.cons rfl (.cons rfl (.cons rfl .nil)))))),?_,?_⟩
     ·exact⟨by omega,_,hM,S,jy,vN,xf⟩
     ·omega
    ·refine cK (aj (ae (ad rfl rfl ?_)));refine cN (M:=M3) (A:=RT.fd) ck rfl xX (by decide) rfl rfl rfl jy (ao _ _) (fun ajt abg=>?_);obtain rfl:ajt=kv t:=nw abg;refine aY rfl rfl E35 (wF (ls:=(keysOf (dL l 0 1 10)).map (pk (dL l 0 1 10))) (t:=t) _ hM vN (iX _) (N5 _) (GZ _) (by omega) (by omega)) (fun as7 as8 hc=>?_);obtain⟨rfl,Oq⟩:=hc;have aju:HW (pq (fk (dL l 0 1 10))).2.2.1 ((keysOf (dL l 0 1 10)).map (pk (dL l 0 1 10))) (dy t)=pk (dL l 0 1 10) (dy t):=yN _;rw[aju];refine aU (v':= .int .i64 ((((pk (dL l 0 1 10) (dy t)).map c1).sum:Nat):Int)) (congrArg (fun z:Nat=>Value.int .i64 (z:Int)) (uB _)) ?_;replace jy:=jy.le (by decide) Oq.le;replace vN:=vN.le (by decide) Oq.le;replace xf:=xf.le Oq.le;replace hM:=Oq.lt hM;have:=S.size;replace S:=S.aB Oq;refine ad rfl rfl (qZ rfl rfl rfl (aU (v':= .bool true) (congrArg Value.bool (decide_eq_true (congrArg (fun z:Nat=>(z:Int)) (Cf hku (fun _ _ _=>rfl) _).symm))) (ad rfl rfl (al rfl rfl (ad rfl rfl (al rfl rfl (bQ bA rfl xf rfl (al rfl rfl (ad rfl rfl (al rfl rfl (qZ rfl rfl rfl ?_)))))))))));refine aU (v':= .bool true) (congrArg Value.bool (decide_eq_true (congrArg (fun z:Nat=>(z:Int)) ((uB _).trans (Cf hku (fun _ _ _=>rfl) _).symm)))) (a8 rfl rfl rfl (ad rfl rfl (al rfl rfl (ad rfl rfl (al rfl rfl (qZ rfl rfl rfl (aU (v':= .bool true) (congrArg Value.bool (decide_eq_true (by rw[aW (by omega),Cf hku (fun _ _ _=>rfl)];omega))) (a8 rfl rfl rfl (ad rfl rfl (al rfl rfl ?_))))))))));refine aY rfl rfl E25 (Cc hM) (fun rl wl hc=>?_);obtain⟨rfl,sl⟩:=hc;replace jy:=jy.le (by decide) sl.le;replace vN:=vN.le (by decide) sl.le;replace xf:=xf.le sl.le;replace hM:=sl.lt hM;have:=S.size;replace S:=S.aB sl
     refine a8 rfl rfl rfl (ah rfl rfl (ab (aQ ?_)));exact aV rfl rfl ⟨rfl,S.back⟩
end Go.K

/- What the law 'MergeRefuses' needs of walks and plain Lean, part 6: nothing is assumed beyond the texts that it imports. -/
import Derived.KernelRfl
import Derived.Test.YtbobcaffmbaadaaGreatDoorProg
import Derived.Test.YtbobcaffmbaadaaGreatDoorZMergeRefuses1
import Derived.Test.YtbobcaffmbaadaaGreatDoorZMergeRefuses2
import Derived.Test.YtbobcaffmbaadaaGreatDoorZMergeRefuses3
import Derived.Test.YtbobcaffmbaadaaGreatDoorZMergeRefuses4
import Derived.Test.YtbobcaffmbaadaaGreatDoorZMergeRefuses5
set_option linter.unusedVariables false
set_option linter.unusedSimpArgs false
namespace Go.K
open Go.Proofs
namespace TKMerge
theorem Cr:TI Tryz.prog 25 (.pointer none) 1 8:=by unfold TI;kernel_rfl
theorem Jg:TI Tryz.prog 47 (.pointer none) 1 8:=by unfold TI;kernel_rfl
theorem Gg:TI Tryz.prog 58 (.slice none 0 0) 1 24:=by unfold TI;kernel_rfl
theorem PD:TI Tryz.prog 72 (.agg #[(.slice none 0 0),(.slice none 0 0),(.slice none 0 0),(.slice none 0 0)]) 4 96:=by unfold TI;kernel_rfl
theorem zV:TI Tryz.prog 80 (.slice none 0 0) 1 24:=by unfold TI;kernel_rfl
theorem ku:TI Tryz.prog 124 (.agg #[(.int .i64 0),(.int .i64 0)]) 2 16:=by unfold TI;kernel_rfl
theorem E34:Enters Tryz.prog 34:=enters Tryz.func34 rfl (by decide)
theorem E36:Enters Tryz.prog 36:=enters Tryz.func36 rfl (by decide)
theorem E38:Enters Tryz.prog 38:=enters Tryz.func38 rfl (by decide)
theorem E43:Enters Tryz.prog 43:=enters Tryz.func43 rfl (by decide)
theorem E56:Enters Tryz.prog 56:=enters Tryz.func56 rfl (by decide)
theorem E57:Enters Tryz.prog 57:=enters Tryz.func57 rfl (by decide)
theorem E58:Enters Tryz.prog 58:=enters Tryz.func58 rfl (by decide)
theorem E59:Enters Tryz.prog 59:=enters Tryz.func59 rfl (by decide)
theorem E60:Enters Tryz.prog 60:=enters Tryz.func60 rfl (by decide)
theorem E61:Enters Tryz.prog 61:=enters Tryz.func61 rfl (by decide)
theorem E62:Enters Tryz.prog 62:=enters Tryz.func62 rfl (by decide)
theorem E63:Enters Tryz.prog 63:=enters Tryz.func63 rfl (by decide)
theorem E64:Enters Tryz.prog 64:=enters Tryz.func64 rfl (by decide)
end TKMerge
open TKMerge
set_option maxRecDepth 10000
def lv (M:aC) (w:World) (g:Gs) (bs:List Nat):Prop:=bs.length=g.length∧∀(i b:Nat) (p:List En×List Bool),bs[i]? =some b→g[i]? =some p→uu M w p.2 b
theorem lv.le {M M':aC} {w w':World} {g:Gs} {bs:List Nat} (hl:Le M w M' w') (h:lv M w g bs):lv M' w' g bs:=⟨h.1,fun i b p h1 h2=>(h.2 i b p h1 h2).le hl⟩
theorem NA {M:aC} {w:World} {xs:List Int} {v:Value} (h:((RT.int .i64).sl).V M w xs v):∀x∈xs,-9223372036854775808≤x∧x≤9223372036854775807:=fun x hx=>by
 obtain⟨a,cap,_,_,_,hs⟩:=iP.1 h;rcases hs with rfl|⟨b,o,_,_,h3⟩
 ·cases hx
 ·obtain⟨i,hi⟩:=bm.1 hx;obtain⟨vs,hr,_⟩:=h3 i x hi;exact hr.2
theorem GO {M:aC} {w:World} {s:Se} {v:Value} (h:dg RT.se M w v s):(∀x∈s.1,-9223372036854775808≤x∧x≤9223372036854775807)∧∀x∈s.2.1,-9223372036854775808≤x∧x≤9223372036854775807:=by
 obtain⟨b,o,vs,_,_,⟨va,vb,rfl,h1,vc,vd,rfl,h2,h3⟩,_⟩:=h;exact⟨NA (v:=(RT.int .i64).sl.val va) ⟨va,h1,rfl⟩,NA (v:=(RT.int .i64).sl.val vc) ⟨vc,h2,rfl⟩⟩
theorem NC {L:List En} {a:List Bool} {d:Int} (h:d∈gv a) (hl:a.length=L.length):IW (pO (fg L)).2.1 d=th L d:=by
 obtain⟨k,rfl,hk⟩:=kV.1 h;have h1:=(an.1 hk).1;unfold IW th;rw[if_pos ⟨by omega,by show(k:Int)<(L.map _).length;rw[aI];omega⟩];rfl
theorem ND {L:List En} {a:List Bool} {d:Int} (h:d∈gv a) (hl:a.length=L.length):th L d∈(pO (fg L)).2.1:=by
 obtain⟨k,rfl,hk⟩:=kV.1 h;have h1:k<(L.map (·.2)).length:=by rw[aI];have:=(an.1 hk).1;omega
 unfold th;rw[ay,az,au h1];exact uP _
theorem P9 {ls:List (List Int)} {a:Nat} (h:∀l∈ls,l.length≤a):rR ls≤a*ls.length:=by
 have key:∀n,n≤ls.length→yX (qL ls) n≤a*n:=by
  intro n
  induction n with
  |zero=>intro _;exact bG _
  |succ n ih=>
   intro hn;have h1:=ih (by omega)
   have h2:qL ls n≤a:=by
    unfold qL;rw[az,au (by omega)];exact h _ (uP _)
   unfold yX;rw[Nat.mul_add];omega
 exact key ls.length (aR _)
theorem Ca {g:Gs} (hg:HG g):Up (kx g):=fun l hl=>by
 obtain⟨p,hp,rfl⟩:=ca.1 hl;obtain⟨h1,h2⟩:=hg p hp;have hu:=y4 h1
 have Me:∀d∈gv p.2,∃(k:Nat) (hk:k<p.1.length),d=k∧th p.1 d=(p.1[k]'hk).2:=fun d hd=>by
  obtain⟨k,rfl,hk⟩:=kV.1 hd;have tD:k<p.1.length:=by have:=(an.1 hk).1;omega
  refine⟨k,tD,rfl,?_⟩;unfold th;rw[ay,az,bB,au tD];rfl
 refine yI (fun x hx=>?_) (cy.2 ((uq p.2).imp_of_mem fun {a b} ha hb Wm=>?_))
 ·obtain⟨d,hd,rfl⟩:=ca.1 hx;obtain⟨k,hk,rfl,e⟩:=Me d hd;rw[e];exact(xz h1 _ (uP _)).1
 ·obtain⟨k,hk,rfl,e⟩:=Me a ha;obtain⟨k',ry,rfl,e'⟩:=Me b hb;rw[e,e'];exact(cq.1 hu) k k' hk ry (by omega)
theorem Qa {o os:List Fo} {k:Nat} {x y:Fo} (hl:os.length=o.length) (hx:(os.take k++o.drop k)[k]? =some x) (hy:os[k]? =some y):(os.take k++o.drop k).set k y=os.take (k+1)++o.drop (k+1):=by
 have hk:k<os.length:=(an.1 hy).1;rw[List.set_append_right _ _ (by rw[bC];omega),bC,xD (by omega),Nat.sub_self,cb,hy,cY,List.append_assoc];congr 1;rw[dB (by omega:k<o.length)];rfl
theorem A3 {M:aC} {w:World}:∀n:Nat,dV ((RT.int .i64).sl) M w (List.replicate n []) (List.replicate n (.slice none 0 0))
 |0=>rfl
 |n+1=>⟨[.slice none 0 0],_,rfl,⟨none,0,rfl,bG _,bG _,.inl rfl⟩,A3 n⟩
theorem Mg.Vh {g:Gs} {os:List Fo} {E:List En} (h:Mg g os E) (hn:∀p∈g,p.1.length≤10000):os.length≤g.length*10000:=by
 have h1:=h.nd.length_le_of_subset (l₂:=(List.range g.length).flatMap fun(i:Nat)=>(List.range 10000).map fun(d:Nat)=>(((i:Int),(d:Int)):Fo)) (fun x hx=>by
  obtain⟨k,hk⟩:=bm.1 hx;obtain⟨i,d,e,rfl,_,L,a,a1,a2,_⟩:=h.at_ k x hk;have h3:=hn _ (aA a1);have h4:=(an.1 a2).1;exact uQ.2 ⟨i,List.mem_range.2 (an.1 a1).1,ca.2 ⟨d,List.mem_range.2 (by simp only at h3;omega),rfl⟩⟩)
 have h2:∀n:Nat,((List.range n).flatMap fun(i:Nat)=>(List.range 10000).map fun(d:Nat)=>(((i:Int),(d:Int)):Fo)).length=n*10000:=fun n=>by
  rw[List.length_flatMap];simp only[aI,List.length_range,List.map_const'];rw[List.sum_replicate_nat]
 rw[h2]at h1;exact h1
theorem HL {a:Nat}:∀{ks:List (List (List UInt8))},(∀l∈ks,l.length≤a)→ks.flatten.length≤a*ks.length
 |[],_=>by simp
 |l::ks,h=>by
  have h1:=h l (bH ..);have h2:=HL (ks:=ks) fun x hx=>h x (b9 _ hx)
  rw[List.flatten_cons,bg,cD,Nat.mul_add];omega
theorem EE {g:Gs} {tos:List (List Int)} {k:List UInt8} (hg:HG g) (hn:∀p∈g,p.1.length≤10000):∀{n:Nat},n≤g.length→(xj g tos k n).length≤n*10000
 |0,_=>by simp[xj]
 |n+1,h=>by
  have h1:=EE (k:=k) (tos:=tos) hg hn (n:=n) (by omega);have nj:g[n]? =some g[n]:=au (by omega);have h2:=ti (tos.getD n []) (pk (g.getD n ([],[])).1 k);rw[show g.getD n ([],[])=g[n]from by rw[az,nj];rfl]at h2;have h3:(pk g[n].1 k).length≤g[n].1.length:=(qF k g[n].1 0 (kr (hg _ (aA nj)).1)).1;have h4:=hn _ (aA nj);rw[vI,bg,show g.getD n ([],[])=g[n]from by rw[az,nj];rfl];omega
theorem np {α:Type} {f:α→Bool} {l:List α} {q:Nat} {x:α} (h:l[q]? =some x):(l.take (q+1)).filter f=if f x=true then(l.take q).filter f++[x]else(l.take q).filter f:=by
 rw[cb,h,cY,List.filter_append]
 split<;>rename_i h1<;>simp[h1]
theorem Qb {L:List En} (h:tv (-1) L=true) (hn:L.length≤100000):Z1 (pO (fg L)) ((keysOf L).map (pk L)):=by
 have hF:=kr h
 have hk:(keysOf L).length≤50000000:=by
  have h1:=(k4 L).nodup.length_le_of_subset (l₂:=iE L) (fun x hx=>jt.1 hx);have:=ot hF;omega
 refine⟨rfl,Vf L,by show(L.map _).length≤_;rw[aI];omega,by show(L.map _).length≤_;rw[aI];omega,by show(keysOf L).length≤_;omega,fun l hl=>?_⟩;obtain⟨k,_,rfl⟩:=ca.1 hl;have h1:=qF k L 0 hF;have mW:fU (-1) (pk L k)=true:=uj k L 0 (-1) hF (by omega) (by omega);have kf:∀p∈pk L k,p.2.length≤500:=fun p hp=>(h1.2 p hp).2.2
 obtain⟨h2,h3⟩:=vC (pk L k) (-1) 500 (by omega) mW kf (by omega);have hl:(pk L k).length≤L.length:=h1.1;exact⟨mW,fun p hp=>by have:=kf p hp;omega,by omega,by omega⟩
theorem NF {g:Gs} (hg:HG g) (h:rF (kx g) none):wO g:=by
 obtain⟨i,k,i',k',n,eN,h1,h2⟩:=h;obtain⟨d,e,a1,a2,a3,a4,a5⟩:=xy hg h1;obtain⟨d',e',b1,b2,b3,b4,b5⟩:=xy hg h2;refine⟨i,d,i',d',e,e',a1,b1,fun⟨hi,hd⟩=>eN ⟨hi,?_⟩,by rw[←a3,←b3]⟩;subst hi;subst hd;obtain⟨L,a,c1,_⟩:=a1;have PR:(iS g).getD i []=gv a:=by unfold iS;rw[az,bB,c1];rfl
 rw[PR]at a5 b5;have oE:(gv a).Nodup:=(uq a).imp fun h e=>by omega
 obtain⟨p1,p2⟩:=an.1 a5;obtain⟨q1,q2⟩:=an.1 b5;exact(List.getElem_inj (h₀:=p1) (h₁:=q1) oE).1 (p2.trans q2.symm)
theorem Vi {g:Gs} (hg:HG g) {out:List Hd} (h:rF (kx g) (some out)) {k:Nat} {x:Fo} (hk:(dR out)[k]? =some x):∃(i q d:Nat) (t:List Int),x=((i:Int),(q:Int))∧(iS g)[i]? =some t∧t[q]? =some (d:Int)∧(ky g (dR out))[k]? =some ((i:Int),(d:Int)):=by
 unfold dR at hk;rw[bB]at hk
 cases ho:out[k]? with
 |none=>rw[ho]at hk;simp at hk
 |some o=>
  rw[ho]at hk;obtain⟨i,q,e1,e2⟩:=h.2.1 o (aA ho);obtain rfl:o.2=x:=by simpa using hk
  obtain⟨d,e,a1,a2,a3,a4,a5⟩:=xy hg e2;have hx:o.2=((i:Int),(q:Int)):=by rw[e1]
  have dO:=(an.1 a5);obtain⟨L,a,c1,_⟩:=a1;have PR:(iS g)[i]? =some (gv a):=by unfold iS;rw[bB,c1];rfl
  have pU:(iS g).getD i []=gv a:=by rw[az,PR];rfl
  rw[pU]at a5 a2;refine⟨i,q,d,gv a,hx,PR,a5,?_⟩;unfold ky dR;rw[bB,bB,ho,cV,cV,hx];show some ((i:Int),((iS g).getD (i:Int).toNat []).getD (q:Int).toNat 0)=_;rw[ay,ay,pU,a2]
set_option maxHeartbeats 4000000 in
theorem zo {M:aC} {g:Gs} {bs:List Nat} {v0 v1:Value} {w0:World} (hM:Lt M w0) (hs:(((RT.se).ptr).sl).V M w0 (g.map fun p=>pO (fg p.1)) v0) (hb:(RT.CS.sl).V M w0 bs v1) (dr:lv M w0 g bs) (hg:HG g) (hgl:g.length≤100) (RP:∀p∈g,p.1.length≤10000) (F7:∀p∈g,(keysOf p.1).length≤100000) (h0: ¬M 1) (BX:∃e fr,w0.heap[1]? =some (.cells (Fj.map fun(k:Nat)=>Value.int .u8 (k:Int)).toArray e fr)):
  Spec Tryz.prog 22 #[v0,v1] w0 (fun v w=>Step M w0 M w aD∧((∃os E,Mg g os E∧∃s,v= .tuple #[s,.int .i64 0]∧dg RT.se M w s (pO (fg E)))∨(wO g∧v= .tuple #[.pointer none,.int .i64 5]))):=by
 have lC:=hM;obtain⟨Z3,Z4,Qd⟩:=BX;have nw:(g.map fun p=>pO (fg p.1)).length=g.length:=aI ..;have aqO:=dr.1;refine bc (args:=[_,_]) (fn:=Tryz.f22) Tryz.func22 rfl (n:=201) Tryz.ntmps22 ?_;have S:Step M w0 M w0 aD:=(ax _ _).cG (fun _ h=>h.elim) (fun _ h=>h.elim);refine aj (ae (ah rfl rfl (ah rfl rfl (ab (aj (aj (ae (ad rfl rfl (ad rfl rfl ?_)))))))));refine aX rfl rfl E56 (zd (ns:=g.map fun p=>p.1.length) w0 hs hb (by rw[dr.1,nw]) (by rw[aI,nw]) (fun i b n h1 h2=>?_)) (fun r1 w1 hc=>?_)
 ·rw[bB]at h2
  cases nj:g[i]? with
  |none=>rw[nj]at h2;simp at h2
  |some p=>
   rw[nj]at h2;obtain rfl:p.1.length=n:=by simpa using h2
   obtain⟨ws,h3,_⟩:=dr.2 i b p h1 nj;rw[(hg p (aA nj)).2]at h3;exact⟨ws,h3⟩
 obtain⟨rfl,e1⟩:=hc;obtain rfl:w0=w1:=e1.symm;refine aV (v':= .bool true) (congrArg Value.bool (decide_eq_true (by rw[List.map_map];apply List.map_congr_left;intro p _;show(p.1.map _).length=_;rw[aI]))) (mS rfl rfl (aV (v':= .bool false) rfl (ab (jD rfl (aT (aj (ae (ah rfl rfl (ah rfl rfl (ab (aj ?_)))))))))));refine ae (ah rfl rfl (ab (aj (aj (ae (ad rfl rfl (bJ cA rfl hs rfl (aV (v':= .int .i64 (g.length:Int)) (by rw[nw]) (ad rfl rfl (ab (aZ ?_)))))))))));refine dn (σ:=Nat×Value×Value×Value) (fun q=>[(0,v0),(1,v1),(4,.pointer none),(5,.int .i64 0),(6,q.2.2.1),(7,q.2.1),(8,q.2.2.2),(34,v0),(35,.int .i64 (g.length:Int)),(36,.int .i64 (q.1:Int))]) (fun q w=>q.1≤g.length∧∃M',Lt M' w∧Step M w0 M' w aD∧(((RT.se).ptr).sl).V M' w (g.map fun p=>pO (fg p.1)) v0∧(RT.CS.sl).V M' w bs v1∧lv M' w g bs∧Own ((RT.int .i64).sl) 37 M' w w0.heap.size q.2.1 ((iS g).take q.1)∧Own ((RT.int .i64).sl) 37 M' w w0.heap.size q.2.2.1 ((kx g).take q.1)∧Own (RT.str.sl) 57 M' w w0.heap.size q.2.2.2 ((g.map fun p=>keysOf p.1).take q.1)∧iB q.2.1 q.2.2.1) (fun q=>g.length-q.1) (0,.slice none 0 0,.slice none 0 0,.slice none 0 0) (.cons rfl (.cons rfl (.cons rfl (.cons rfl (.cons rfl (.cons rfl (.cons rfl (.cons rfl (.cons rfl (.cons rfl .nil)))))))))) ?_ ?_
 ·exact⟨bG _,_,hM,S,hs,hb,dr,dE _ _ _ _ _,dE _ _ _ _ _,dE _ _ _ _ _,iB.nil _⟩
 ·clear hM S hs hb dr;rintro⟨i,vl,vs,vk⟩ w ⟨hi,M1,hM,S,hs,hb,dr,fF,iq,hok,xw⟩;dsimp only at hi fF iq hok xw ⊢;refine aj (ae (cf rfl rfl rfl (ab (aj ?_))));refine bP rfl (fun c6=>?_) (fun c6=>?_)
  ·refine aT (aj (aZ (aj (ae (ad rfl rfl ?_)))));obtain⟨p,nj⟩:∃p,g[i]? =some p:=⟨_,au (by omega)⟩;have Fa:=aA nj;have Iw:(g.map fun p=>pO (fg p.1))[i]? =some (pO (fg p.1)):=by rw[bB,nj];rfl
   obtain⟨Qe,tu⟩:=hg p Fa;have Oa:=RP p Fa;refine cF (M:=M1) cA Cr rfl rfl rfl hs (aq _ _) (by omega) (fun u7 x_ l2 hu7=>?_);rw[ay]at l2;obtain rfl:=aJ (Iw.symm.trans l2);refine bV (M:=M1) fu rfl rfl rfl rfl rfl hu7 (aq _ _) (fun v7 Iy=>?_);have kf:=j0.1 Iy;obtain⟨a7,rfl⟩:=kf.iC;refine ah rfl rfl (ah rfl rfl (ab (aj (ae (ad rfl rfl (ad rfl rfl ?_))))));obtain⟨b8,QK⟩:∃b,bs[i]? =some b:=⟨_,au (by rw[dr.1];omega)⟩;have k5:=dr.1;refine cF (M:=M1) fv Jg rfl rfl rfl hb (aq _ _) (by omega) (fun u8 x_ l2 hu8=>?_);rw[ay]at l2;obtain rfl:=aJ (QK.symm.trans l2);refine bV (M:=M1) nQ rfl rfl rfl rfl rfl hu8 (aq _ _) (fun vb Yp=>?_);obtain rfl:=tM.1 Yp;have ahD:=S.aK Qd;refine aX rfl rfl E57 (Ep hM (dr.2 i b8 p QK nj) (fun h=>h0 ((S.mem 1 (ak Qd)).1 h)) ⟨Z3,Z4,ahD⟩) (fun r8 w8 hc=>?_);obtain⟨vP,s8⟩:=hc;replace hs:=hs.le s8.le;replace hb:=hb.le s8.le;replace dr:=dr.le s8.le;replace kf:=kf.le (by decide) s8.le;replace fF:=fF.aM s8;replace iq:=iq.aM s8;replace hok:=hok.aM s8;replace hM:=s8.lt hM;have:=S.size;replace S:=S.aB s8;refine ah rfl rfl (ab (aj (ae (ah rfl rfl (ab (aj (aj (ae (ad rfl rfl ?_)))))))));have H3:=vH p.2;refine bJ ao rfl vP rfl (ad rfl rfl (ab (aZ ?_)));refine dn (σ:=Nat×Value) (fun q=>[(0,v0),(1,v1),(4,.pointer none),(5,.int .i64 0),(6,vs),(7,vl),(8,vk),(34,v0),(35,.int .i64 (g.length:Int)),(36,.int .i64 (i:Int)),(9,.int .i64 (i:Int)),(10,.pointer (some a7)),(11,r8),(12,q.2),(46,r8),(47,.int .i64 ((gv p.2).length:Int)),(48,.int .i64 (q.1:Int))]) (fun q w=>q.1≤(gv p.2).length∧∃M',Lt M' w∧Step M w0 M' w aD∧(((RT.se).ptr).sl).V M' w (g.map fun p=>pO (fg p.1)) v0∧(RT.CS.sl).V M' w bs v1∧lv M' w g bs∧dg RT.se M' w (.pointer (some a7)) (pO (fg p.1))∧((RT.int .i64).sl).V M' w (gv p.2) r8∧Own ((RT.int .i64).sl) 37 M' w w0.heap.size vl ((iS g).take i)∧Own ((RT.int .i64).sl) 37 M' w w0.heap.size vs ((kx g).take i)∧Own (RT.str.sl) 57 M' w w0.heap.size vk ((g.map fun p=>keysOf p.1).take i)∧Own (RT.int .i64) 3 M' w w0.heap.size q.2 (((gv p.2).take q.1).map (th p.1))) (fun q=>(gv p.2).length-q.1) (0,.slice none 0 0) (.cons rfl (.cons rfl (.cons rfl (.cons rfl (.cons rfl (.cons rfl (.cons rfl (.cons rfl (.cons rfl (.cons rfl (.cons rfl (.cons rfl (.cons rfl (.cons rfl (.cons rfl (.cons rfl (.cons rfl .nil))))))))))))))))) ?_ ?_
   ·exact⟨bG _,_,hM,S,hs,hb,dr,kf,vP,fF,iq,hok,dE _ _ _ _ _⟩
   ·clear hM S hs hb dr kf vP fF iq hok;rintro⟨k,vn⟩ w ⟨EX,M2,hM,S,hs,hb,dr,kf,vP,fF,iq,hok,zB⟩;dsimp only at EX zB ⊢;refine aj (ae (cf rfl rfl rfl (ab (aj ?_))));refine bP rfl (fun Fv=>?_) (fun Fv=>?_)
    ·refine aT (aj (aZ (aj (ae ?_))));obtain⟨d,hk⟩:∃d,(gv p.2)[k]? =some d:=⟨_,au (by omega)⟩;have hdm:=aA hk;refine cF (M:=M2) ao I3 rfl rfl rfl vP (aq _ _) (by omega) (fun u12 x_ l2 ahE=>?_);rw[ay]at l2;obtain rfl:=aJ (hk.symm.trans l2);refine bV (M:=M2) aw rfl rfl rfl rfl rfl ahE (aq _ _) (fun v12 ahF=>?_);obtain⟨rfl,_,_⟩:=xG.1 ahF;refine ah rfl rfl (ab (ae (ad rfl rfl (ad rfl rfl (ad rfl rfl ?_)))));have Ow:=(GO kf).2 _ (ND hdm tu);refine aX rfl rfl E58 (AW _ kf) (fun r13 w13 hc=>?_);obtain⟨rfl,rfl⟩:=hc;refine aV (v':= .int .i64 (th p.1 d)) (congrArg (Value.int .i64) (NC hdm tu)) ?_;refine dQ (A:=RT.int .i64) (hn:=by decide) (M:=M2) ao I3 (by decide) rfl rfl hM (gm (by omega)) (.inr ⟨rfl,rfl⟩) (fun fV Q3 yu eY=>?_);replace hs:=hs.le eY.le;replace hb:=hb.le eY.le;replace dr:=dr.le eY.le;replace kf:=kf.le (by decide) eY.le;replace vP:=vP.le eY.le;replace fF:=fF.aM eY;replace iq:=iq.aM eY;replace hok:=hok.aM eY;replace zB:=zB.aM eY;replace hM:=eY.lt hM;have:=S.size;replace S:=S.aB eY;refine cX (M:=M2) (base:=w0.heap.size) ao I3 rfl rfl rfl rfl zB yu (aq _ _) (by rw[aI,bC,ew];omega) (by rw[aI,bC,ew];omega) (S.size) (fun Z5 aln alo Vj qN=>?_);replace hs:=hs.le qN.le;replace hb:=hb.le qN.le;replace dr:=dr.le qN.le;replace kf:=kf.le (by decide) qN.le;replace vP:=vP.le qN.le;replace yu:=yu.le qN.le;replace fF:=fF.step qN (fun b h1 h2=>fF.dA zB (by decide) h1 h2);replace iq:=iq.step qN (fun b h1 h2=>iq.dA zB (by decide) h1 h2);replace hok:=hok.step qN (fun b h1 h2=>hok.dA zB (by decide) h1 h2)
     replace hM:=qN.lt hM;have:=S.size;replace S:=S.dm qN zB (aR _);replace zB:=Vj;refine ah rfl rfl (ab (ae (bD rfl rfl rfl (by omega) (ad rfl rfl (ab ?_)))));refine⟨rfl,(k+1,Z5),(.cons rfl (.cons rfl (.cons rfl (.cons rfl (.cons rfl (.cons rfl (.cons rfl (.cons rfl (.cons rfl (.cons rfl (.cons rfl (.cons rfl (.cons rfl (.cons rfl (.cons rfl (.cons rfl (.cons rfl .nil))))))))))))))))),?_,?_⟩
     ·exact⟨by dsimp only;omega,_,hM,S,hs,hb,dr,kf,vP,fF,iq,hok,by dsimp only;rw[cb,hk,cY,eA];exact zB⟩
     ·dsimp only;omega
    ·refine cL (ae ?_);rw[br (by omega)]at zB;refine ad rfl rfl (ad rfl rfl ?_);refine dQ (A:=((RT.int .i64).sl)) (hn:=by decide) (M:=M2) cK kG (by decide) rfl rfl hM (vP) (.inr ⟨rfl,rfl⟩) (fun alp alq Vk qO=>?_);replace hs:=hs.le qO.le;replace hb:=hb.le qO.le;replace dr:=dr.le qO.le;replace kf:=kf.le (by decide) qO.le;replace vP:=vP.le qO.le;replace fF:=fF.aM qO;replace iq:=iq.aM qO;replace hok:=hok.aM qO;replace zB:=zB.aM qO;replace hM:=qO.lt hM;have:=S.size;replace S:=S.aB qO;refine nP (M:=M2) (base:=w0.heap.size) cK kG rfl rfl rfl rfl fF Vk (aq _ _) (by simp;omega) (by simp;omega) S.size (fun v15 w15 Vl xg ahG=>?_);generalize jA (M2) v15=M15 at Vl xg;have RQ:iB v15 vs:=xw.grown ahG (fun b hb=>(iq.base b hb).2);replace iq:=iq.step xg (fun b hb h=>xw b h hb);replace hok:=hok.step xg (fun b h1 h2=>hok.dA fF (by decide) h1 h2);replace zB:=zB.step xg (fun b h1 h2=>zB.dA fF (by decide) h1 h2);replace hs:=hs.le xg.le;replace hb:=hb.le xg.le;replace dr:=dr.le xg.le;replace kf:=kf.le (by decide) xg.le;replace vP:=vP.le xg.le;replace S:=S.dm xg fF (aR _);replace hM:=xg.lt hM;replace fF:=Vl;clear Vl;refine ad rfl rfl (ad rfl rfl ?_);have rV:=zB.view (hn:=by decide) (by rw[aI];omega);replace hs:=hs.le (fw _ vn _);replace hb:=hb.le (fw _ vn _);replace dr:=dr.le (fw _ vn _);replace kf:=kf.le (by decide) (fw _ vn _);replace vP:=vP.le (fw _ vn _);replace fF:=fF.JI (v:=vn) (fun b hb=>by first|exact fF.dA zB (by decide) hb|exact Vm b hb);replace iq:=iq.JI (v:=vn) (fun b hb=>by first|exact iq.dA zB (by decide) hb|exact RR b hb);replace hok:=hok.JI (v:=vn) (fun b hb=>by first|exact hok.dA zB (by decide) hb|exact Vn b hb);replace hM:Lt (rm M15 vn) _:=fun b hb=>hM b hb.1
     replace S:=S.freeze (v:=vn) (fun b hb=>by have:=(zB.base b hb).1;omega);clear zB;refine dQ (A:=((RT.int .i64).sl)) (hn:=by decide) (M:=rm M15 vn) cK kG (by decide) rfl rfl hM (rV) (.inr ⟨rfl,rfl⟩) (fun MU Zn Vo jx=>?_);replace hs:=hs.le jx.le;replace hb:=hb.le jx.le;replace dr:=dr.le jx.le;replace kf:=kf.le (by decide) jx.le;replace vP:=vP.le jx.le;replace rV:=rV.le jx.le;replace fF:=fF.aM jx;replace iq:=iq.aM jx;replace hok:=hok.aM jx;replace hM:=jx.lt hM;have:=S.size;replace S:=S.aB jx;refine nP (M:=rm M15 vn) (base:=w0.heap.size) cK kG rfl rfl rfl rfl iq Vo (aq _ _) (by simp;omega) (by simp;omega) S.size (fun v157 aqP NG Ac Z6=>?_);generalize jA (rm M15 vn) v157=Vp at NG Ac;have Vq:iB v157 v15:=RQ.symm.grown Z6 (fun b hb=>(fF.base b hb).2);replace fF:=fF.step Ac (fun b hb h=>RQ.symm b h hb);replace hok:=hok.step Ac (fun b h1 h2=>hok.dA iq (by decide) h1 h2);replace hs:=hs.le Ac.le;replace hb:=hb.le Ac.le;replace dr:=dr.le Ac.le;replace kf:=kf.le (by decide) Ac.le;replace vP:=vP.le Ac.le;replace S:=S.dm Ac iq (aR _);replace hM:=Ac.lt hM;replace iq:=NG;clear NG;refine ad rfl rfl (ad rfl rfl ?_);refine aX rfl rfl E38 (Gq _ hM (by show _=(((fg p.1).2.2.2).map oU).length;rw[aI];show _=((keysOf p.1).map _).length;rw[aI];rfl) (by have:=F7 p Fa;show(keysOf p.1).length≤_;omega) kf) (fun alr als hc=>?_);obtain⟨Vr,sf⟩:=hc;replace hs:=hs.le sf.le;replace hb:=hb.le sf.le;replace dr:=dr.le sf.le;replace kf:=kf.le (by decide) sf.le;replace vP:=vP.le sf.le;replace fF:=fF.aM sf;replace iq:=iq.aM sf;replace hok:=hok.aM sf;replace hM:=sf.lt hM;have:=S.size;replace S:=S.aB sf;refine dQ (A:=(RT.str.sl)) (hn:=by decide) (M:=Vp) Tryz.underlying120 zz (by decide) rfl rfl hM (Vr) (.inr ⟨rfl,rfl⟩) (fun ahH ahI Qf mL=>?_)
     replace hs:=hs.le mL.le;replace hb:=hb.le mL.le;replace dr:=dr.le mL.le;replace kf:=kf.le (by decide) mL.le;replace vP:=vP.le mL.le;replace Vr:=Vr.le mL.le;replace fF:=fF.aM mL;replace iq:=iq.aM mL;replace hok:=hok.aM mL;replace hM:=mL.lt hM;have:=S.size;replace S:=S.aB mL;refine nP (M:=Vp) (base:=w0.heap.size) Tryz.underlying120 zz rfl rfl rfl rfl hok Qf (aq _ _) (by simp;omega) (by simp;omega) S.size (fun RS alu GP si ahJ=>?_);generalize jA (Vp) RS=alv at GP si;replace fF:=fF.step si (fun b h1 h2=>fF.dA hok (by decide) h1 h2);replace iq:=iq.step si (fun b h1 h2=>iq.dA hok (by decide) h1 h2);replace hs:=hs.le si.le;replace hb:=hb.le si.le;replace dr:=dr.le si.le;replace kf:=kf.le (by decide) si.le;replace vP:=vP.le si.le;replace S:=S.dm si hok (aR _);replace hM:=si.lt hM;replace hok:=GP;clear GP;refine ah rfl rfl (ah rfl rfl (ah rfl rfl (ab (ae (bD rfl rfl rfl (by omega) (ad rfl rfl (ab ?_)))))));refine⟨rfl,(i+1,v15,v157,RS),(.cons rfl (.cons rfl (.cons rfl (.cons rfl (.cons rfl (.cons rfl (.cons rfl (.cons rfl (.cons rfl (.cons rfl .nil)))))))))),?_,?_⟩
     ·refine⟨by dsimp only;omega,_,hM,S,hs,hb,dr,?_,?_,?_,Vq.symm⟩
      ·dsimp only;rw[cb,show(iS g)[i]? =some (gv p.2)from by unfold iS;rw[bB,nj];rfl];exact fF
      ·dsimp only;rw[cb,show(kx g)[i]? =some ((gv p.2).map (th p.1))from by unfold kx;rw[bB,nj];rfl];exact iq
      ·dsimp only;rw[cb,bB,nj];exact hok
     ·dsimp only;omega
  ·refine cL (aj (ae ?_));rw[br (by unfold iS;rw[aI];omega)]at fF;rw[br (by unfold kx;rw[aI];omega)]at iq;rw[br (by rw[aI];omega)]at hok;have EF:=xw.symm;refine ad rfl rfl ?_;have kn:=fF.view (hn:=by decide) (by unfold iS;rw[aI];omega);replace hs:=hs.le (fw _ vl _);replace hb:=hb.le (fw _ vl _);replace dr:=dr.le (fw _ vl _);replace iq:=iq.JI (v:=vl) (fun b hb=>by first|exact iq.dA fF (by decide) hb|exact EF b hb);replace hok:=hok.JI (v:=vl) (fun b hb=>by first|exact hok.dA fF (by decide) hb|exact Vs b hb);replace hM:Lt (rm M1 vl) _:=fun b hb=>hM b hb.1
   replace S:=S.freeze (v:=vl) (fun b hb=>by have:=(fF.base b hb).1;omega);clear fF;have lA:=iq.view (hn:=by decide) (by unfold kx;rw[aI];omega);replace hs:=hs.le (fw _ vs _);replace hb:=hb.le (fw _ vs _);replace dr:=dr.le (fw _ vs _);replace kn:=kn.le (fw _ vs _);replace hok:=hok.JI (v:=vs) (fun b hb=>by first|exact hok.dA iq (by decide) hb|exact RU b hb);replace hM:Lt (rm (rm M1 vl) vs) _:=fun b hb=>hM b hb.1
   replace S:=S.freeze (v:=vs) (fun b hb=>by have:=(iq.base b hb).1;omega);clear iq;have kB:=hok.view (hn:=by decide) (by rw[aI];omega);replace hs:=hs.le (fw _ vk _);replace hb:=hb.le (fw _ vk _);replace dr:=dr.le (fw _ vk _);replace kn:=kn.le (fw _ vk _);replace lA:=lA.le (fw _ vk _);replace hM:Lt (rm (rm (rm M1 vl) vs) vk) _:=fun b hb=>hM b hb.1
   replace S:=S.freeze (v:=vk) (fun b hb=>by have:=(hok.base b hb).1;omega);clear hok
   have Z7:∀l∈kx g,l.length≤10000:=fun l hl=>by
    obtain⟨p,hp,rfl⟩:=ca.1 hl;rw[aI];have:=vH p.2;have:=RP p hp;have:=(hg p hp).2;omega
   have aqQ:(kx g).length=g.length:=by unfold kx;rw[aI]
   refine aX rfl rfl E59 (zm hM lA (by omega) (fun l hl=>by have:=Z7 l hl;omega) (by have:=P9 Z7;have:10000*(kx g).length≤10000*1000:=Nat.mul_le_mul_left _ (by omega);omega)) (fun r17 w17 hc=>?_);obtain⟨M17,aqS,JF,vo,Rq,rfl,Qg⟩:=hc;replace hs:=hs.le JF.le;replace hb:=hb.le JF.le;replace dr:=dr.le JF.le;replace kn:=kn.le JF.le;replace lA:=lA.le JF.le;replace kB:=kB.le JF.le;replace hM:=JF.lt hM;have:=S.size;replace S:=S.aB JF;refine ad rfl rfl (bK rfl rfl rfl (bK rfl rfl rfl (ah rfl rfl (ah rfl rfl (ab (aj (aj (ae (ad rfl rfl (fp rfl rfl rfl (ab ?_)))))))))));refine bP rfl (fun Wn=>?_) (fun Wn=>?_)
   ·have j9:wO g:=by
     rcases Qg with⟨h1,_,_⟩|⟨_,r,hr,h|⟨out,_,rfl,_⟩⟩
     ·exact absurd (Ca hg) h1
     ·rw[h.1]at hr;exact NF hg hr
     ·exact absurd rfl Wn
    obtain⟨rfl,rfl⟩:Rq=5∧vo= .slice none 0 0:=by
     rcases Qg with⟨h1,_,_⟩|⟨_,r,hr,h|⟨out,_,rfl,_⟩⟩
     ·exact absurd (Ca hg) h1
     ·exact h.2
     ·exact absurd rfl Wn
    refine aj (ae (ad rfl rfl (ah rfl rfl (ah rfl rfl (ab (aN ?_))))));exact eU rfl rfl rfl ⟨S.back,.inr ⟨j9,rfl⟩⟩
   ·obtain⟨out,Z8,rfl,alw,ho⟩:∃out,rF (kx g) (some out)∧Rq=0∧(dR out).length≤1099511627776∧Own RT.fo 124 M17 w17 w.heap.size vo (dR out):=by
     rcases Qg with⟨h1,_,_⟩|⟨_,r,hr,h|⟨out,h1,h2,h3,h4⟩⟩
     ·exact absurd (Ca hg) h1
     ·exact absurd (by rw[h.2.1];decide) Wn
     ·exact⟨out,h1▸hr,h2,h3,h4⟩
    clear Qg;have CP:=Zs hg Z8;have Vt:(ky g (dR out)).length=(dR out).length:=by unfold ky;rw[aI]
    have hwz:=S.size
    have hEl:((ky g (dR out)).map (iL g)).length≤1000000:=by
     have h1:=CP.Vh RP;rw[aI];have:g.length*10000≤100*10000:=gw _ hgl;omega
    refine aT (aj (aj (ae (ad rfl rfl (fS eQ rfl ho rfl (ad rfl rfl (ab (aZ ?_))))))));refine dn (σ:=Nat) (fun k=>[(0,v0),(7,vl),(8,vk),(15,vo),(81,vo),(82,.int .i64 ((dR out).length:Int)),(83,.int .i64 (k:Int))]) (fun k w=>k≤(dR out).length∧∃M',Lt M' w∧Step M w0 M' w aD∧(((RT.se).ptr).sl).V M' w (g.map fun p=>pO (fg p.1)) v0∧(RT.CS.sl).V M' w bs v1∧lv M' w g bs∧(((RT.int .i64).sl).sl).V M' w (iS g) vl∧(RT.str.sl.sl).V M' w (g.map fun p=>keysOf p.1) vk∧Own RT.fo 124 M' w w0.heap.size vo ((ky g (dR out)).take k++(dR out).drop k)) (fun k=>(dR out).length-k) 0 (.cons rfl (.cons rfl (.cons rfl (.cons rfl (.cons rfl (.cons rfl (.cons rfl .nil))))))) ?_ ?_
    ·exact⟨bG _,_,hM,S,hs,hb,dr,kn,kB,by rw[List.take_zero,fQ,List.drop_zero];exact ho.oL (by omega)⟩
    ·clear hM S hs hb dr kn kB ho lA;rintro k w ⟨hk,M2,hM,S,hs,hb,dr,kn,kB,ho⟩;have sC:=fun b hb=>(ho.base b hb).2
     refine aj (ae (cf rfl rfl rfl (ab (aj ?_))));refine bP rfl (fun c21=>?_) (fun c21=>?_)
     ·refine aT (aj (aZ (aj (ae (ad rfl rfl ?_)))));obtain⟨x,Z9⟩:∃x,(dR out)[k]? =some x:=⟨_,au (by omega)⟩;obtain⟨i,q,d,t,rfl,EP,htq,ahK⟩:=Vi hg Z8 Z9;have qU:((ky g (dR out)).take k++(dR out).drop k).length=(dR out).length:=by rw[bg,bC,dw,Vt];omega
      have hxx:((ky g (dR out)).take k++(dR out).drop k)[k]? =some ((i:Int),(q:Int)):=by rw[List.getElem?_append_right (by rw[bC];omega),bC,xD (by omega),Nat.sub_self,List.getElem?_drop];exact Z9
      obtain⟨go,gc,aqU,fz,hgb,hgM,Xu⟩:=ho.ve (ho.BW (by omega));rw[qU]at fz;subst fz;refine vW (size:=2) eQ ku rfl rfl rfl (by omega) (q:=k*2) (by omega) ?_;refine de (M:=fun b=>M2 b∧b≠go) (A:=RT.fo) cw rfl ku (by decide) rfl rfl rfl (ho.ptr hxx) (aq _ _) (fun v22 ahM=>?_);obtain⟨rfl,ra,rb⟩:=rh ahM;refine ey M2 ku rfl (fun HM aaa aly alz qP uA=>?_);obtain⟨qQ,HN⟩:∃M',M'=ins M2 HM:=⟨_,rfl⟩;rw[←HN]at uA;have ri:qQ HM:=by rw[HN];exact .inl rfl
      change aaa.heap[HM]? =some (.cells #[.int .i64 0,.int .i64 0] _ _)at qP;replace hs:=hs.le uA.le;replace hb:=hb.le uA.le;replace dr:=dr.le uA.le;replace kn:=kn.le uA.le;replace kB:=kB.le uA.le;replace ho:=ho.aM uA;replace hM:=uA.lt hM;have:=S.size;replace S:=S.aB uA;refine ah rfl rfl ?_;refine ez (M:=qQ) (vs:=[.int .i64 (i:Int),.int .i64 (q:Int)]) ku rfl rfl (by intro u hu;simp only[bX,dJ,or_false]at hu;rcases hu with rfl|rfl<;>rfl) rfl rfl qP ri (fun ws gs ss=>?_);have:=ak qP;replace ri:=(ss.mem _ this).2 ri;replace hs:=hs.le ss.le;replace hb:=hb.le ss.le;replace dr:=dr.le ss.le;replace kn:=kn.le ss.le;replace kB:=kB.le ss.le;replace ho:=ho.step ss (fun b hb hk=>by have hk:b=HM:=hk;have:=sC b hb;omega);replace hM:=ss.lt hM;have:=S.size;replace S:=S.trans ss (fun k hk h=>by have h:_=_:=h;subst h;first|(exfalso;omega)|(show _≤_;omega)|exact⟨by first|omega|assumption,(S.mem _ hk).1 ((ss.mem _ (ak qP)).1 ri)⟩|exact .inl rfl|exact .inr rfl|exact .inr (.inl rfl)|exact .inr (.inr rfl)|exact .inr (.inr (.inl rfl))|exact rfl);have NH:=gs;clear qP;have qP:=NH;clear NH;refine ab ?_;apply T.J2 13 mixed rfl rfl rfl rfl rfl;intro aqV ahN;have Ad:=ahN qQ;have:=ak qP;replace ri:=(Ad.mem _ this).2 ri;replace qP:=Ad.aK qP;replace hs:=hs.le Ad.le;replace hb:=hb.le Ad.le;replace dr:=dr.le Ad.le;replace kn:=kn.le Ad.le;replace kB:=kB.le Ad.le;replace ho:=ho.aM Ad;replace hM:=Ad.lt hM;have:=S.size;replace S:=S.aB Ad;refine ad rfl rfl ?_;refine ab ⟨rfl,rfl,rfl,?_⟩;refine ad rfl rfl ?_;refine ab ⟨rfl,rfl,rfl,?_⟩;refine ad rfl rfl ?_;refine ab ⟨rfl,rfl,rfl,?_⟩;refine xp (len:=2) cw I3 rfl rfl rfl (by omega) ?_;refine ab ⟨rfl,rfl,rfl,?_⟩;refine aL aw rfl rfl rfl qP rfl (aV (v':= .int .i64 (i:Int)) rfl ?_)
      refine ab ⟨rfl,rfl,rfl,?_⟩;have HU:(iS g).length=g.length:=by unfold iS;rw[aI]
      have oN:=(an.1 EP).1;refine cF (M:=qQ) cK kG rfl rfl rfl kn (aq _ _) (by omega) (fun u23 x_ l2 ahO=>?_);rw[ay]at l2;obtain rfl:=aJ (EP.symm.trans l2);refine ab ⟨rfl,rfl,rfl,?_⟩;refine bV (M:=qQ) ao rfl rfl rfl rfl rfl ahO (aq _ _) (fun v23 ahP=>?_);refine ab ⟨rfl,rfl,rfl,?_⟩;refine xp (len:=2) cw I3 rfl rfl rfl (by omega) ?_;refine ab ⟨rfl,rfl,rfl,?_⟩;refine aL aw rfl rfl rfl qP rfl (aV (v':= .int .i64 (q:Int)) rfl ?_);refine ab ⟨rfl,rfl,rfl,?_⟩;have hql:=(an.1 htq).1;refine cF (M:=qQ) ao I3 rfl rfl rfl ahP (aq _ _) (by omega) (fun aqW x_ l2 aab=>?_);rw[ay]at l2;obtain rfl:=aJ (htq.symm.trans l2);refine ab ⟨rfl,rfl,rfl,?_⟩;refine bV (M:=qQ) aw rfl rfl rfl rfl rfl aab (aq _ _) (fun alA Vu=>?_);obtain⟨rfl,hrd⟩:=xG.1 Vu;refine ab ⟨rfl,rfl,rfl,?_⟩;refine vW (size:=2) eQ ku rfl rfl rfl (by omega) (q:=k*2) (by omega) ?_;refine ab ⟨rfl,rfl,rfl,?_⟩;refine Rg.PW (o:=k*2) (len:=2) cw I3 rfl rfl rfl (by omega) ?_;refine ab ⟨rfl,rfl,rfl,?_⟩;refine ff ?_;obtain⟨cur,Eg,PQ,hfo,Sb,⟨u0,dp,Qw⟩,aac⟩:=ho.Zw hxx;refine cu (M:=qQ) I3 rfl rfl Eg dp rfl PQ (fun alB aad wT=>?_);have gB:=aac _ _ _ hrd aad ((wT.mem _ (ak Eg)).2 PQ);replace hs:=hs.le wT.le;replace hb:=hb.le wT.le;replace dr:=dr.le wT.le;replace kn:=kn.le wT.le;replace kB:=kB.le wT.le;replace S:=S.cg wT (fun b hb=>by have hb:b=go:=hb;omega);replace hM:=wT.lt hM;replace ho:=gB;clear gB;refine ab (ae (bD rfl rfl rfl (by omega) (ad rfl rfl (ab ?_))));refine⟨rfl,k+1,(.cons rfl (.cons rfl (.cons rfl (.cons rfl (.cons rfl (.cons rfl (.cons rfl .nil))))))),?_,?_⟩
      ·refine⟨by omega,_,hM,S,hs,hb,dr,kn,kB,?_⟩;rw[Qa Vt hxx ahK]at ho;exact ho
      ·omega
     ·refine cL (aj (ae ?_));refine ey M2 PD rfl (fun fm aae alC alD NI uB=>?_);obtain⟨GQ,HO⟩:∃M',M'=ins M2 fm:=⟨_,rfl⟩;rw[←HO]at uB;have Cb:GQ fm:=by rw[HO];exact .inl rfl
      change aae.heap[fm]? =some (.cells #[.slice none 0 0,.slice none 0 0,.slice none 0 0,.slice none 0 0] _ _)at NI;replace hs:=hs.le uB.le;replace hb:=hb.le uB.le;replace dr:=dr.le uB.le;replace kn:=kn.le uB.le;replace kB:=kB.le uB.le;replace ho:=ho.aM uB;replace hM:=uB.lt hM;have:=S.size;replace S:=S.aB uB;refine ab (aj (aj (ae ?_)));have ahQ:(ky g (dR out)).take k++(dR out).drop k=(ky g (dR out)):=by rw[br (by omega),gQ (by omega),iX]
      rw[ahQ]at ho;refine ad rfl rfl ?_;have fz:=ho.view (hn:=by decide) (by rw[Vt];omega);replace Cb:rm GQ vo _:=⟨Cb,by first|exact ho.eK NI (by decide)|(intro h;have:=(ho.base _ h).1;omega)⟩;replace hs:=hs.le (fw _ vo _);replace hb:=hb.le (fw _ vo _);replace dr:=dr.le (fw _ vo _);replace kn:=kn.le (fw _ vo _);replace kB:=kB.le (fw _ vo _);replace hM:Lt (rm GQ vo) _:=fun b hb=>hM b hb.1
      replace S:=S.freeze (v:=vo) (fun b hb=>by have:=(ho.base b hb).1;omega);clear ho;refine bJ eQ rfl fz rfl (ad rfl rfl (ab (aZ ?_)));refine dn (σ:=Nat×Value×Value) (fun q=>[(0,v0),(8,vk),(15,vo),(19,.pointer (some ⟨fm,0,none⟩)),(102,vo),(103,.int .i64 ((ky g (dR out)).length:Int)),(104,.int .i64 (q.1:Int))]) (fun q w=>q.1≤(ky g (dR out)).length∧∃M',Lt M' w∧Step M w0 M' w aD∧(((RT.se).ptr).sl).V M' w (g.map fun p=>pO (fg p.1)) v0∧(RT.CS.sl).V M' w bs v1∧lv M' w g bs∧(RT.str.sl.sl).V M' w (g.map fun p=>keysOf p.1) vk∧(RT.fo.sl).V M' w (ky g (dR out)) vo∧w.heap[fm]? =some (.cells #[q.2.1,q.2.2,.slice none 0 0,.slice none 0 0] 72 (0,0))∧M' fm∧Own (RT.int .i64) 3 M' w w0.heap.size q.2.1 ((((ky g (dR out)).map (iL g)).take q.1).map (·.1.1))∧Own (RT.int .i64) 3 M' w w0.heap.size q.2.2 ((((ky g (dR out)).map (iL g)).take q.1).map (·.2))∧iB q.2.1 q.2.2) (fun q=>(ky g (dR out)).length-q.1) (0,.slice none 0 0,.slice none 0 0) (.cons rfl (.cons rfl (.cons rfl (.cons rfl (.cons rfl (.cons rfl (.cons rfl .nil))))))) ?_ ?_
      ·exact⟨bG _,_,hM,S,hs,hb,dr,kB,fz,NI,Cb,dE _ _ _ _ _,dE _ _ _ _ _,iB.nil _⟩
      ·clear hM S hs hb dr kn kB fz;rintro⟨k,vi,vq⟩ w ⟨hk,M3,hM,S,hs,hb,dr,kB,fz,gp,eD,eM,gX,xw⟩;dsimp only at hk gp eM gX xw ⊢;have hbz:=ak gp;have uC:=fun b hb=>(eM.base b hb).2
       have uD:=fun b hb=>(gX.base b hb).2
       refine aj (ae (cf rfl rfl rfl (ab (aj ?_))));refine bP rfl (fun c27=>?_) (fun c27=>?_)
       ·refine aT (aj (aZ (aj (ae ?_))));obtain⟨x,Z9⟩:∃x,(ky g (dR out))[k]? =some x:=⟨_,au (by omega)⟩;obtain⟨i,d,e,rfl,hek,L,a,nj,hld,had⟩:=CP.at_ k x Z9;have Iw:(g.map fun p=>pO (fg p.1))[i]? =some (pO (fg L)):=by rw[bB,nj];rfl
        have oN:=(an.1 nj).1;refine cF (M:=M3) eQ ku rfl rfl rfl fz (aq _ _) (by omega) (fun u28 x_ l2 ahR=>?_);rw[ay]at l2;obtain rfl:=aJ (Z9.symm.trans l2);refine de (M:=M3) (A:=RT.fo) cw rfl ku (by decide) rfl rfl rfl ahR (aq _ _) (fun v28 ahS=>?_);obtain⟨rfl,ra,rb⟩:=rh ahS;refine ey M3 ku rfl (fun uE aaf alF alG fI pP=>?_);obtain⟨nE,HP⟩:∃M',M'=ins M3 uE:=⟨_,rfl⟩;rw[←HP]at pP;have gM:nE uE:=by rw[HP];exact .inl rfl
        change aaf.heap[uE]? =some (.cells #[.int .i64 0,.int .i64 0] _ _)at fI;have:=ak gp;replace eD:=(pP.mem _ this).2 eD;replace gp:=pP.aK gp;replace hs:=hs.le pP.le;replace hb:=hb.le pP.le;replace dr:=dr.le pP.le;replace kB:=kB.le pP.le;replace fz:=fz.le pP.le;replace eM:=eM.aM pP;replace gX:=gX.aM pP;replace hM:=pP.lt hM;have:=S.size;replace S:=S.aB pP;refine ez (M:=nE) (vs:=[.int .i64 (i:Int),.int .i64 (d:Int)]) ku rfl rfl (by intro u hu;simp only[bX,dJ,or_false]at hu;rcases hu with rfl|rfl<;>rfl) rfl rfl fI gM (fun ws gs ss=>?_);have:=ak gp;replace eD:=(ss.mem _ this).2 eD;replace gp:=ss.keep gp (fun hk=>by have hk:_=_:=hk;omega);have:=ak fI;replace gM:=(ss.mem _ this).2 gM;replace hs:=hs.le ss.le;replace hb:=hb.le ss.le;replace dr:=dr.le ss.le;replace kB:=kB.le ss.le;replace fz:=fz.le ss.le;replace eM:=eM.step ss (fun c hc h=>by first|exact eM.eK gp (by decide) ((show c=fm from h)▸hc)|(have h:c=uE:=h;have:=uC c hc;omega));replace gX:=gX.step ss (fun c hc h=>by first|exact gX.eK gp (by decide) ((show c=fm from h)▸hc)|(have h:c=uE:=h;have:=uD c hc;omega));replace hM:=ss.lt hM;have:=S.size;replace S:=S.trans ss (fun k hk h=>by have h:_=_:=h;subst h;first|(exfalso;omega)|(show _≤_;omega)|exact⟨by first|omega|assumption,(S.mem _ hk).1 ((ss.mem _ (ak fI)).1 gM)⟩|exact .inl rfl|exact .inr rfl|exact .inr (.inl rfl)|exact .inr (.inr rfl)|exact .inr (.inr (.inl rfl))|exact rfl);have NJ:=gs;clear fI;have fI:=NJ;clear NJ;refine ab ?_;apply T.Vg 24 [0,1,2,3,4,5,6,7,8,12,13,14,15,16,17,18,19,20,24,9,10,11,21,22,23,25,26,27] 19 [0,1,9,10,11,12,13,14,15,16,17,18] 6 (fun b=>fP vi b∨fP vq b) mixed
        ·simp+decide only[loose,zn,xT,sH,eS,j5,je,jf,fB,cV,ig,qc,cond_true,cond_false,Nat.reduceBEq,Nat.reduceAdd,beq_self_eq_true];rfl
        ·rfl
        ·rfl
        ·rfl
        ·rfl
        ·rfl
        ·rfl
        ·rfl
        intro ahT ahU;have vQ:=ahU nE;have:=ak gp;replace eD:=(vQ.mem _ this).2 eD;replace gp:=vQ.aK gp;have:=ak fI;replace gM:=(vQ.mem _ this).2 gM;replace fI:=vQ.aK fI;replace hs:=hs.le vQ.le;replace hb:=hb.le vQ.le;replace dr:=dr.le vQ.le;replace kB:=kB.le vQ.le;replace fz:=fz.le vQ.le;replace eM:=eM.aM vQ;replace gX:=gX.aM vQ;replace hM:=vQ.lt hM;have:=S.size;replace S:=S.aB vQ;refine bN (o':=0) bU rfl rfl kG (by decide) rfl rfl ?_;refine ab ⟨rfl,rfl,rfl,?_⟩;refine aL ao rfl rfl rfl gp rfl (aV (v':=vi) rfl ?_);refine ab ⟨rfl,rfl,rfl,?_⟩;refine ad rfl rfl ?_;refine ab ⟨rfl,rfl,rfl,?_⟩;refine xp (len:=2) cw I3 rfl rfl rfl (by omega) ?_;refine ab ⟨rfl,rfl,rfl,?_⟩;refine aL aw rfl rfl rfl fI rfl (aV (v':= .int .i64 (i:Int)) rfl ?_);refine ab ⟨rfl,rfl,rfl,?_⟩;refine cF (M:=nE) cA Cr rfl rfl rfl hs (aq _ _) (by omega) (fun aqZ x_ l2 aag=>?_);rw[ay]at l2;obtain rfl:=aJ (Iw.symm.trans l2);refine ab ⟨rfl,rfl,rfl,?_⟩;refine bV (M:=nE) fu rfl rfl rfl rfl rfl aag (aq _ _) (fun aq0 aah=>?_);have EG:=j0.1 aah;obtain⟨aq1,rfl⟩:=EG.iC;refine ab ⟨rfl,rfl,rfl,?_⟩;refine xp (len:=2) cw I3 rfl rfl rfl (by omega) ?_;refine ab ⟨rfl,rfl,rfl,?_⟩;refine aL aw rfl rfl rfl fI rfl (aV (v':= .int .i64 (d:Int)) rfl ?_);refine ab ⟨rfl,rfl,rfl,?_⟩;refine bN (o':=1) bU rfl rfl kG (by decide) rfl rfl ?_;refine ab ⟨rfl,rfl,rfl,?_⟩;refine aL ao rfl rfl rfl gp rfl (aV (v':=vq) rfl ?_);refine ab ⟨rfl,rfl,rfl,?_⟩;refine ad rfl rfl ?_;refine ab ⟨rfl,rfl,rfl,?_⟩;refine xp (len:=2) cw I3 rfl rfl rfl (by omega) ?_;refine ab ⟨rfl,rfl,rfl,?_⟩
        refine aL aw rfl rfl rfl fI rfl (aV (v':= .int .i64 (i:Int)) rfl ?_);refine ab ⟨rfl,rfl,rfl,?_⟩;refine cF (M:=nE) cA Cr rfl rfl rfl hs (aq _ _) (by omega) (fun alH x_ l2 NK=>?_);rw[ay]at l2;obtain rfl:=aJ (Iw.symm.trans l2);refine ab ⟨rfl,rfl,rfl,?_⟩;refine bV (M:=nE) fu rfl rfl rfl rfl rfl NK (aq _ _) (fun alI Vv=>?_);have py:=j0.1 Vv;obtain⟨alJ,rfl⟩:=py.iC;refine ab ⟨rfl,rfl,rfl,?_⟩;refine xp (len:=2) cw I3 rfl rfl rfl (by omega) ?_;refine ab ⟨rfl,rfl,rfl,?_⟩;refine aL aw rfl rfl rfl fI rfl (aV (v':= .int .i64 (d:Int)) rfl ?_);refine ab ⟨rfl,rfl,rfl,?_⟩;refine bN (o':=0) bU rfl rfl kG (by decide) rfl rfl ?_;refine ab ⟨rfl,rfl,rfl,?_⟩;refine ff ?_;obtain⟨bb,oo,cs_,ee_,fr_,rfl,lj,hnM⟩:=NK.float;refine⟨jd ⟨jj bU rfl kG (by decide),⟨eI rfl gp (fun h=>h.elim (eM.eK gp (by decide)) (gX.eK gp (by decide))),⟨jj bU rfl kG (by decide),⟨eI rfl gp (fun h=>h.elim (eM.eK gp (by decide)) (gX.eK gp (by decide))),⟨gR,⟨bZ.idx,⟨eI rfl fI (fun h=>h.elim (fun h=>by have:=uC _ h;omega) (fun h=>by have:=uD _ h;omega)),⟨bZ.idx,⟨eI rfl lj (fun h=>hnM (h.elim (eM.mut_ _) (gX.mut_ _))),⟨bZ.idx,⟨eI rfl fI (fun h=>h.elim (fun h=>by have:=uC _ h;omega) (fun h=>by have:=uD _ h;omega)),⟨jj bU rfl kG (by decide),trivial⟩⟩⟩⟩⟩⟩⟩⟩⟩⟩⟩⟩,?_⟩;have kp:=kd (fun b=>fP vi b∨fP vq b) ahT;have ahV:=(GO EG).1;refine aX rfl rfl E60 (MI _ EG) (fun aq5 aq6 hc=>?_);obtain⟨rfl,rfl⟩:=hc;refine aV (v':= .int .i64 e.1.1) (congrArg (Value.int .i64) (MG (by show(L.map _)[d]? =_;rw[bB,hld];rfl))) ?_;refine(fun(kp:eO _ _ _)=>ab ⟨rfl,rfl,fun _=>kp,?_⟩) (by first|exact kp|exact kp.sG (by assumption)|exact kp.goN (by assumption)|exact kp.go (by assumption) (fun _ _ h=>by first|exact h|exact h.elim))
        refine dQ (A:=RT.int .i64) (hn:=by decide) (M:=nE) ao I3 (by decide) rfl rfl hM (gm (ahV _ (by show _∈L.map _;exact ca.2 ⟨e,aA hld,rfl⟩))) (.inr ⟨rfl,rfl⟩) (fun ahW ahX Qh jX=>?_);have:=ak gp;replace eD:=(jX.mem _ this).2 eD;replace gp:=jX.aK gp;have:=ak fI;replace gM:=(jX.mem _ this).2 gM;replace fI:=jX.aK fI;replace hs:=hs.le jX.le;replace hb:=hb.le jX.le;replace dr:=dr.le jX.le;replace kB:=kB.le jX.le;replace fz:=fz.le jX.le;replace EG:=EG.le (by decide) jX.le;replace py:=py.le (by decide) jX.le;replace eM:=eM.aM jX;replace gX:=gX.aM jX;replace hM:=jX.lt hM;have:=S.size;replace S:=S.aB jX;refine(fun(kp:eO _ _ _)=>ab ⟨rfl,rfl,fun _=>kp,?_⟩) (by first|exact kp|exact kp.sG (by assumption)|exact kp.goN (by assumption)|exact kp.go (by assumption) (fun _ _ h=>by first|exact h|exact h.elim));refine nP (M:=nE) (base:=w0.heap.size) ao I3 rfl rfl rfl rfl eM Qh (aq _ _) (by simp;omega) (by simp;omega) S.size (fun A4 alL GR mM Vw=>?_);generalize jA (nE) A4=NL at GR mM;have HQ:iB A4 vq:=xw.grown Vw (fun b hb=>(gX.base b hb).2);replace gX:=gX.step mM (fun b hb h=>xw b h hb);replace eD:=(mM.mem _ (ak gp)).2 eD;replace gp:=mM.keep gp (fun h=>by first|exact eM.eK gp (by decide) h|(have:=(eM.base _ h).2;omega));replace gM:=(mM.mem _ (ak fI)).2 gM;replace fI:=mM.keep fI (fun h=>by first|exact eM.eK fI (by decide) h|(have:=(eM.base _ h).2;omega));replace hs:=hs.le mM.le;replace hb:=hb.le mM.le;replace dr:=dr.le mM.le;replace kB:=kB.le mM.le;replace fz:=fz.le mM.le;replace py:=py.le (by decide) mM.le;replace S:=S.dm mM eM (aR _);replace hM:=mM.lt hM;replace eM:=GR
        clear GR;refine(fun(kp:eO _ _ _)=>ab ⟨rfl,rfl,fun _=>kp,?_⟩) (kp.go mM (fun b hb h=> .inl h));have ahY:=(GO py).2;refine aX rfl rfl E58 (AW _ py) (fun alM alN hc=>?_);obtain⟨rfl,rfl⟩:=hc;refine aV (v':= .int .i64 e.2) (congrArg (Value.int .i64) (MG (by show(L.map _)[d]? =_;rw[bB,hld];rfl))) ?_;refine(fun(kp:eO _ _ _)=>ab ⟨rfl,rfl,fun _=>kp,?_⟩) (by first|exact kp|exact kp.sG (by assumption)|exact kp.goN (by assumption)|exact kp.go (by assumption) (fun _ _ h=>by first|exact h|exact h.elim));refine dQ (A:=RT.int .i64) (hn:=by decide) (M:=NL) ao I3 (by decide) rfl rfl hM (gm (ahY _ (by show _∈L.map _;exact ca.2 ⟨e,aA hld,rfl⟩))) (.inr ⟨rfl,rfl⟩) (fun ahZ ah0 Qi kz=>?_);have:=ak gp;replace eD:=(kz.mem _ this).2 eD;replace gp:=kz.aK gp;have:=ak fI;replace gM:=(kz.mem _ this).2 gM;replace fI:=kz.aK fI;replace hs:=hs.le kz.le;replace hb:=hb.le kz.le;replace dr:=dr.le kz.le;replace kB:=kB.le kz.le;replace fz:=fz.le kz.le;replace py:=py.le (by decide) kz.le;replace eM:=eM.aM kz;replace gX:=gX.aM kz;replace hM:=kz.lt hM;have:=S.size;replace S:=S.aB kz;refine(fun(kp:eO _ _ _)=>ab ⟨rfl,rfl,fun _=>kp,?_⟩) (by first|exact kp|exact kp.sG (by assumption)|exact kp.goN (by assumption)|exact kp.go (by assumption) (fun _ _ h=>by first|exact h|exact h.elim));refine nP (M:=NL) (base:=w0.heap.size) ao I3 rfl rfl rfl rfl gX Qi (aq _ _) (by simp;omega) (by simp;omega) S.size (fun HR alO GS nq Vx=>?_);generalize jA (NL) HR=RV at GS nq;have Qj:iB HR A4:=HQ.symm.grown Vx (fun b hb=>(eM.base b hb).2);replace eM:=eM.step nq (fun b hb h=>HQ.symm b h hb);replace eD:=(nq.mem _ (ak gp)).2 eD;replace gp:=nq.keep gp (fun h=>by first|exact gX.eK gp (by decide) h|(have:=(gX.base _ h).2;omega))
        replace gM:=(nq.mem _ (ak fI)).2 gM;replace fI:=nq.keep fI (fun h=>by first|exact gX.eK fI (by decide) h|(have:=(gX.base _ h).2;omega));replace hs:=hs.le nq.le;replace hb:=hb.le nq.le;replace dr:=dr.le nq.le;replace kB:=kB.le nq.le;replace fz:=fz.le nq.le;replace S:=S.dm nq gX (aR _);replace hM:=nq.lt hM;replace gX:=GS;clear GS;refine(fun(kp:eO _ _ _)=>ab ⟨rfl,rfl,fun _=>kp,?_⟩) (kp.go nq (fun b hb h=> .inr h));refine cu (M:=RV) kG rfl rfl gp rfl (by obtain⟨_,_,he,_⟩:=eM.isSlice;rw[he];rfl) eD (fun Vy NM kX=>?_);change Vy.heap[_]? =some (Obj.cells #[A4,vq,.slice none 0 0,.slice none 0 0] _ _)at NM;have:=ak gp;replace eD:=(kX.mem _ this).2 eD;have:=ak fI;replace gM:=(kX.mem _ this).2 gM;replace fI:=kX.keep fI (fun hk=>by have hk:_=_:=hk;omega);replace hs:=hs.le kX.le;replace hb:=hb.le kX.le;replace dr:=dr.le kX.le;replace kB:=kB.le kX.le;replace fz:=fz.le kX.le;replace eM:=eM.step kX (fun c hc h=>by first|exact eM.eK gp (by decide) ((show c=fm from h)▸hc)|(have h:c=uE:=h;have:=uC c hc;omega));replace gX:=gX.step kX (fun c hc h=>by first|exact gX.eK gp (by decide) ((show c=fm from h)▸hc)|(have h:c=uE:=h;have:=uD c hc;omega));replace hM:=kX.lt hM;have:=S.size;replace S:=S.trans kX (fun k hk h=>by have h:_=_:=h;subst h;first|(exfalso;omega)|(show _≤_;omega)|exact⟨by first|omega|assumption,(S.mem _ hk).1 ((kX.mem _ (ak gp)).1 eD)⟩|exact .inl rfl|exact .inr rfl|exact .inr (.inl rfl)|exact .inr (.inr rfl)|exact .inr (.inr (.inl rfl))|exact rfl);have gp_:=NM;clear gp;have gp:=gp_;clear gp_;refine ab ⟨rfl,rfl,fun h=>absurd rfl h,?_⟩;refine bN (o':=1) bU rfl rfl kG (by decide) rfl rfl ?_;refine ab ⟨rfl,rfl,fun h=>absurd rfl h,?_⟩;refine cu (M:=RV) kG rfl rfl gp rfl (by obtain⟨_,_,he,_⟩:=gX.isSlice;rw[he];rfl) eD (fun Vz NN kY=>?_)
        change Vz.heap[_]? =some (Obj.cells #[A4,HR,.slice none 0 0,.slice none 0 0] _ _)at NN;have:=ak gp;replace eD:=(kY.mem _ this).2 eD;have:=ak fI;replace gM:=(kY.mem _ this).2 gM;replace fI:=kY.keep fI (fun hk=>by have hk:_=_:=hk;omega);replace hs:=hs.le kY.le;replace hb:=hb.le kY.le;replace dr:=dr.le kY.le;replace kB:=kB.le kY.le;replace fz:=fz.le kY.le;replace eM:=eM.step kY (fun c hc h=>by first|exact eM.eK gp (by decide) ((show c=fm from h)▸hc)|(have h:c=uE:=h;have:=uC c hc;omega));replace gX:=gX.step kY (fun c hc h=>by first|exact gX.eK gp (by decide) ((show c=fm from h)▸hc)|(have h:c=uE:=h;have:=uD c hc;omega));replace hM:=kY.lt hM;have:=S.size;replace S:=S.trans kY (fun k hk h=>by have h:_=_:=h;subst h;first|(exfalso;omega)|(show _≤_;omega)|exact⟨by first|omega|assumption,(S.mem _ hk).1 ((kY.mem _ (ak gp)).1 eD)⟩|exact .inl rfl|exact .inr rfl|exact .inr (.inl rfl)|exact .inr (.inr rfl)|exact .inr (.inr (.inl rfl))|exact rfl);have gp_:=NN;clear gp;have gp:=gp_;clear gp_;refine ab ⟨rfl,rfl,fun h=>absurd rfl h,?_⟩;refine nN (ae (bD rfl rfl rfl (by omega) (ad rfl rfl (ab ?_))));refine⟨rfl,(k+1,A4,HR),(.cons rfl (.cons rfl (.cons rfl (.cons rfl (.cons rfl (.cons rfl (.cons rfl .nil))))))),?_,?_⟩
        ·refine⟨by dsimp only;omega,_,hM,S,hs,hb,dr,kB,fz,gp,eD,?_,?_,Qj.symm⟩
         ·dsimp only;rw[cb,hek,cY,eA];exact eM
         ·dsimp only;rw[cb,hek,cY,eA];exact gX
        ·dsimp only;omega
       ·refine cL (aj (ae ?_));have Cw:((ky g (dR out)).map (iL g)).length=(ky g (dR out)).length:=by rw[aI]
        rw[br (by omega)]at eM gX;refine ad rfl rfl (bJ cA rfl hs rfl (aV (v':= .int .i64 (g.length:Int)) (by rw[nw]) ?_));refine Rg.mk0 (len:=g.length) (M3) cK kG rfl rfl rfl rfl (by omega) (by omega) (fun GU wto zto aq8 gto JM=>?_);obtain⟨Mto,aaj⟩:∃M',M'=ins (M3) GU:=⟨_,rfl⟩;rw[←aaj]at JM
        have A5:Own ((RT.int .i64).sl) 37 Mto wto w0.heap.size (.slice (some ⟨GU,0,none⟩) g.length g.length) (List.replicate g.length []):=by
         refine⟨⟨List.replicate g.length (.slice none 0 0),⟨by rw[bM,bM];exact(eG _).symm,.inr ⟨GU,g.length,_,by rw[bM],by have:=S.size;omega,gto,by rw[bM];exact aR _,by unfold maxLen;omega,by rw[List.size_toArray,bM];exact(eG _).symm,by rw[bM];show(List.replicate _ _).toArray.toList.take (g.length*1)=_;rw[List.toList_toArray,eG,br (by rw[bM];exact aR _)]⟩⟩,A3 _⟩,fun b hb=>by cases hb;rw[aaj];exact .inl rfl⟩
        clear gto;have:=ak gp;replace eD:=(JM.mem _ this).2 eD;replace gp:=JM.aK gp;replace hs:=hs.le JM.le;replace hb:=hb.le JM.le;replace dr:=dr.le JM.le;replace kB:=kB.le JM.le;replace fz:=fz.le JM.le;replace eM:=eM.aM JM;replace gX:=gX.aM JM;replace hM:=JM.lt hM;have:=S.size;replace S:=S.aB JM;refine ah rfl rfl (ab (aj (aj (ae (ad rfl rfl (bJ cA rfl hs rfl (aV (v':= .int .i64 (g.length:Int)) (by rw[nw]) (ad rfl rfl (ab (aZ ?_))))))))));refine dn (σ:=Nat) (fun i=>[(0,v0),(8,vk),(15,vo),(19,.pointer (some ⟨fm,0,none⟩)),(22,.slice (some ⟨GU,0,none⟩) g.length g.length),(138,v0),(139,.int .i64 (g.length:Int)),(140,.int .i64 (i:Int))]) (fun i w=>i≤g.length∧∃M',Lt M' w∧Step M w0 M' w aD∧(((RT.se).ptr).sl).V M' w (g.map fun p=>pO (fg p.1)) v0∧(RT.CS.sl).V M' w bs v1∧lv M' w g bs∧(RT.str.sl.sl).V M' w (g.map fun p=>keysOf p.1) vk∧(RT.fo.sl).V M' w (ky g (dR out)) vo∧w.heap[fm]? =some (.cells #[vi,vq,.slice none 0 0,.slice none 0 0] 72 (0,0))∧M' fm∧Own (RT.int .i64) 3 M' w w0.heap.size vi (((ky g (dR out)).map (iL g)).map (·.1.1))∧Own (RT.int .i64) 3 M' w w0.heap.size vq (((ky g (dR out)).map (iL g)).map (·.2))∧(∃tos:List (List Int),tos.length=g.length∧(∀(j:Nat) (p:List En×List Bool),j<i→g[j]? =some p→Plc (ky g (dR out)) j p.1.length (tos.getD j []))∧Own ((RT.int .i64).sl) 37 M' w w0.heap.size (.slice (some ⟨GU,0,none⟩) g.length g.length) tos)) (fun i=>g.length-i) 0 (.cons rfl (.cons rfl (.cons rfl (.cons rfl (.cons rfl (.cons rfl (.cons rfl (.cons rfl .nil)))))))) ?_ ?_
        ·exact⟨bG _,_,hM,S,hs,hb,dr,kB,fz,gp,eD,eM,gX,_,bM ..,(fun j p h=>by omega),A5⟩
        ·clear hM S hs hb dr kB fz gp eD eM gX A5;rintro i w ⟨hi,M4,hM,S,hs,hb,dr,kB,fz,gp,eD,eM,gX,tos,H3,aak,A5⟩;refine aj (ae (cf rfl rfl rfl (ab (aj ?_))));refine bP rfl (fun c33=>?_) (fun c33=>?_)
         ·refine aT (aj (aZ (aj (ae (ad rfl rfl ?_)))));obtain⟨p,nj⟩:∃p,g[i]? =some p:=⟨_,au (by omega)⟩;have Fa:=aA nj;have Iw:(g.map fun p=>pO (fg p.1))[i]? =some (pO (fg p.1)):=by rw[bB,nj];rfl
          obtain⟨Qe,tu⟩:=hg p Fa;have Oa:=RP p Fa;refine cF (M:=M4) cA Cr rfl rfl rfl hs (aq _ _) (by omega) (fun u34 x_ l2 ah1=>?_);rw[ay]at l2;obtain rfl:=aJ (Iw.symm.trans l2);refine bV (M:=M4) fu rfl rfl rfl rfl rfl ah1 (aq _ _) (fun v34 ah2=>?_);have Qk:=j0.1 ah2;obtain⟨a34,rfl⟩:=Qk.iC;refine ah rfl rfl (ah rfl rfl (ab (ae (ad rfl rfl (ad rfl rfl (ad rfl rfl (ad rfl rfl (ad rfl rfl ?_))))))));refine aX rfl rfl E34 (AV _ Qk) (fun arb arc hc=>?_);obtain⟨rfl,rfl⟩:=hc;refine aV (v':= .int .i64 (p.1.length:Int)) (by show Value.int .i64 (((p.1.map _).length:Nat):Int)=_;rw[aI]) ?_;refine aX rfl rfl E61 (Ef (i:=(i:Int)) hM fz (n:=p.1.length) (by omega)) (fun ard arf hc=>?_);obtain⟨arh,xs,NO,ah3,_,ah4⟩:=hc;obtain⟨rB,oC⟩:=ah3.Gv (hn:=by decide) HJ ah4 (aR _) hM (by rw[NO.1];omega);have:=ak gp;replace eD:=(oC.mem _ this).2 eD;replace gp:=oC.aK gp;replace hs:=hs.le oC.le;replace hb:=hb.le oC.le;replace dr:=dr.le oC.le;replace kB:=kB.le oC.le;replace fz:=fz.le oC.le;replace Qk:=Qk.le (by decide) oC.le;replace eM:=eM.aM oC;replace gX:=gX.aM oC;replace A5:=A5.aM oC;replace hM:=oC.lt hM;have:=S.size;replace S:=S.aB oC;refine vW (size:=1) cK kG rfl rfl rfl (by omega) (q:=i) (by omega) ?_;refine Rg.U2 (A:=((RT.int .i64).sl)) (M:=M4) ⟨rfl,rfl⟩ kG rfl rfl A5 (by omega) rB (fun ari aal zp=>?_);have ah5:∀c,vi.ownBlock=some c→¬c=GU:=fun c hc h=>(eM.dA A5 (by decide) hc) (by rw[h];rfl)
          have ah6:∀c,vq.ownBlock=some c→¬c=GU:=fun c hc h=>(gX.dA A5 (by decide) hc) (by rw[h];rfl)
          replace eM:=eM.step zp ah5;replace gX:=gX.step zp ah6;replace eD:=(zp.mem _ (ak gp)).2 eD;replace gp:=zp.keep gp (fun h=>A5.eK gp (by decide) (by rw[show fm=GU from h];rfl));replace hs:=hs.le zp.le;replace hb:=hb.le zp.le;replace dr:=dr.le zp.le;replace kB:=kB.le zp.le;replace fz:=fz.le zp.le;have arj:=(A5.base GU rfl).1;replace S:=S.cg zp (fun b hb=>by have hb:b=GU:=hb;omega);replace hM:=zp.lt hM;replace A5:=aal;clear aal;refine ab (ae (bD rfl rfl rfl (by omega) (ad rfl rfl (ab ?_))));refine⟨rfl,i+1,(.cons rfl (.cons rfl (.cons rfl (.cons rfl (.cons rfl (.cons rfl (.cons rfl (.cons rfl .nil)))))))),?_,?_⟩
          ·refine⟨by omega,_,hM,S,hs,hb,dr,kB,fz,gp,eD,eM,gX,_,by rw[fA];exact H3,fun j p' hj WS=>?_,A5⟩;rw[az,du];rcases cJ j i with h|h
           ·rw[if_neg (by omega),←az];exact aak j p' h WS
           ·obtain rfl:i=j:=by omega
            rw[nj]at WS;cases WS;rw[if_pos rfl,if_pos (by omega)];exact NO
          ·omega
         ·refine cL (aj (aj (ae ?_)));have HS:Ei g (ky g (dR out)) tos:=⟨H3,fun j p h=>aak j p (by have:=(an.1 h).1;omega) h⟩;obtain⟨Od,aam⟩:∃v,v=Value.slice (some ⟨GU,0,none⟩) g.length g.length:=⟨_,rfl⟩;rw[←aam]at A5;refine ad rfl rfl ?_;have oG:=A5.view (hn:=by decide) (by rw[H3];omega);replace eD:rm M4 Od _:=⟨eD,by first|exact A5.eK gp (by decide)|(intro h;have:=(A5.base _ h).1;omega)⟩;replace hs:=hs.le (fw _ Od _);replace hb:=hb.le (fw _ Od _);replace dr:=dr.le (fw _ Od _);replace kB:=kB.le (fw _ Od _);replace fz:=fz.le (fw _ Od _);replace eM:=eM.JI (v:=Od) (fun b hb=>by first|exact eM.dA A5 (by decide) hb|exact VA b hb);replace gX:=gX.JI (v:=Od) (fun b hb=>by first|exact gX.dA A5 (by decide) hb|exact VB b hb);replace hM:Lt (rm M4 Od) _:=fun b hb=>hM b hb.1
          replace S:=S.freeze (v:=Od) (fun b hb=>by have:=(A5.base b hb).1;omega);clear A5;subst aam;have ER:=HL (ks:=g.map fun p=>keysOf p.1) (a:=100000) (fun l hl=>by obtain⟨p,hp,rfl⟩:=ca.1 hl;exact F7 p hp);rw[aI]at ER;have ark:100000*g.length≤100000*1000:=Nat.mul_le_mul_left _ (show g.length≤1000 by omega);have xc:=Jh (g.map fun p=>keysOf p.1);obtain⟨hJu,hJm⟩:=zj (g.map fun p=>keysOf p.1);refine aX rfl rfl E62 (Jl _ hM kB (by omega)) (fun rJ w37 hc=>?_);obtain⟨M37,hoJ,_,s37⟩:=hc;obtain⟨tj,xm⟩:=hoJ.Gv (hn:=by decide) nk s37 (aR _) hM (by omega);have:=ak gp;replace eD:=(xm.mem _ this).2 eD;replace gp:=xm.aK gp;replace hs:=hs.le xm.le;replace hb:=hb.le xm.le;replace dr:=dr.le xm.le;replace kB:=kB.le xm.le;replace fz:=fz.le xm.le;replace oG:=oG.le xm.le;replace eM:=eM.aM xm;replace gX:=gX.aM xm;replace hM:=xm.lt hM;have:=S.size;replace S:=S.aB xm;refine bJ aQ rfl tj rfl (ad rfl rfl (ab (aZ ?_)));refine dn (σ:=Nat×Value×Value) (fun q=>[(0,v0),(19,.pointer (some ⟨fm,0,none⟩)),(22,.slice (some ⟨GU,0,none⟩) g.length g.length),(155,rJ),(156,.int .i64 ((ju (g.map fun p=>keysOf p.1)).length:Int)),(157,.int .i64 (q.1:Int))]) (fun q w=>q.1≤(ju (g.map fun p=>keysOf p.1)).length∧∃M',Lt M' w∧Step M w0 M' w aD∧(((RT.se).ptr).sl).V M' w (g.map fun p=>pO (fg p.1)) v0∧(RT.str.sl).V M' w (ju (g.map fun p=>keysOf p.1)) rJ∧(((RT.int .i64).sl).sl).V M' w tos (.slice (some ⟨GU,0,none⟩) g.length g.length)∧w.heap[fm]? =some (.cells #[vi,vq,q.2.1,q.2.2] 72 (0,0))∧M' fm∧Own (RT.int .i64) 3 M' w w0.heap.size vi (((ky g (dR out)).map (iL g)).map (·.1.1))∧Own (RT.int .i64) 3 M' w w0.heap.size vq (((ky g (dR out)).map (iL g)).map (·.2))∧Own RT.str 9 M' w w0.heap.size q.2.1 (((ju (g.map fun p=>keysOf p.1)).take q.1).filter (fun k=> !(pk ((ky g (dR out)).map (iL g)) k).isEmpty))∧Own (RT.po.sl) 80 M' w w0.heap.size q.2.2 ((((ju (g.map fun p=>keysOf p.1)).take q.1).filter (fun k=> !(pk ((ky g (dR out)).map (iL g)) k).isEmpty)).map (pk ((ky g (dR out)).map (iL g))))) (fun q=>(ju (g.map fun p=>keysOf p.1)).length-q.1) (0,.slice none 0 0,.slice none 0 0) (.cons rfl (.cons rfl (.cons rfl (.cons rfl (.cons rfl (.cons rfl .nil)))))) ?_ ?_
          ·exact⟨bG _,_,hM,S,hs,tj,oG,gp,eD,eM,gX,dE _ _ _ _ _,dE _ _ _ _ _⟩
          ·clear hM S hs hb dr kB fz tj oG gp eD eM gX;rintro⟨qk,Cs,VC⟩ w ⟨hq,M5,hM,S,hs,tj,oG,gp,eD,eM,gX,hok,fF⟩;dsimp only at hq gp hok fF ⊢;refine aj (ae (cf rfl rfl rfl (ab (aj ?_))));refine bP rfl (fun c38=>?_) (fun c38=>?_)
           ·refine aT (aj (aZ (aj (ae ?_))));obtain⟨key,hkq⟩:∃x,(ju (g.map fun p=>keysOf p.1))[qk]? =some x:=⟨_,au (by omega)⟩;refine cF (M:=M5) aQ I9 rfl rfl rfl tj (aq _ _) (by omega) (fun u39 x_ l2 ah7=>?_);rw[ay]at l2;obtain rfl:=aJ (hkq.symm.trans l2);refine bV (M:=M5) aH rfl rfl rfl rfl rfl ah7 (aq _ _) (fun ars aao=>?_);obtain⟨rfl,E5⟩:=kF.1 aao;refine ah rfl rfl (ab (aj (ae (ah rfl rfl (ab (aj (aj (ae (ad rfl rfl (bJ cA rfl hs rfl (aV (v':= .int .i64 (g.length:Int)) (by rw[nw]) ?_)))))))))));refine ad rfl rfl (ab (aZ ?_));refine dn (σ:=Nat×Value) (fun q=>[(0,v0),(19,.pointer (some ⟨fm,0,none⟩)),(22,.slice (some ⟨GU,0,none⟩) g.length g.length),(155,rJ),(156,.int .i64 ((ju (g.map fun p=>keysOf p.1)).length:Int)),(157,.int .i64 (qk:Int)),(26,.string ⟨key.toArray⟩),(27,q.2),(161,v0),(162,.int .i64 (g.length:Int)),(163,.int .i64 (q.1:Int))]) (fun q w=>q.1≤g.length∧∃M',Lt M' w∧Step M w0 M' w aD∧(((RT.se).ptr).sl).V M' w (g.map fun p=>pO (fg p.1)) v0∧(RT.str.sl).V M' w (ju (g.map fun p=>keysOf p.1)) rJ∧(((RT.int .i64).sl).sl).V M' w tos (.slice (some ⟨GU,0,none⟩) g.length g.length)∧w.heap[fm]? =some (.cells #[vi,vq,Cs,VC] 72 (0,0))∧M' fm∧Own (RT.int .i64) 3 M' w w0.heap.size vi (((ky g (dR out)).map (iL g)).map (·.1.1))∧Own (RT.int .i64) 3 M' w w0.heap.size vq (((ky g (dR out)).map (iL g)).map (·.2))∧Own RT.str 9 M' w w0.heap.size Cs (((ju (g.map fun p=>keysOf p.1)).take qk).filter (fun k=> !(pk ((ky g (dR out)).map (iL g)) k).isEmpty))∧Own (RT.po.sl) 80 M' w w0.heap.size VC ((((ju (g.map fun p=>keysOf p.1)).take qk).filter (fun k=> !(pk ((ky g (dR out)).map (iL g)) k).isEmpty)).map (pk ((ky g (dR out)).map (iL g))))∧Own RT.po 83 M' w w0.heap.size q.2 (xj g tos key q.1)) (fun q=>g.length-q.1) (0,.slice none 0 0) (.cons rfl (.cons rfl (.cons rfl (.cons rfl (.cons rfl (.cons rfl (.cons rfl (.cons rfl (.cons rfl (.cons rfl (.cons rfl .nil))))))))))) ?_ ?_
            ·exact⟨bG _,_,hM,S,hs,tj,oG,gp,eD,eM,gX,hok,fF,dE _ _ _ _ _⟩
            ·clear hM S hs tj oG gp eD eM gX hok fF;rintro⟨i,Oe⟩ w ⟨hi,M6,hM,S,hs,tj,oG,gp,eD,eM,gX,hok,fF,uF⟩;dsimp only at hi uF ⊢;have ah8:=EE (k:=key) (tos:=tos) hg RP hi;refine aj (ae (cf rfl rfl rfl (ab (aj ?_))));refine bP rfl (fun c42=>?_) (fun c42=>?_)
             ·refine aT (aj (aZ (aj (ae (ad rfl rfl ?_)))));obtain⟨p,nj⟩:∃p,g[i]? =some p:=⟨_,au (by omega)⟩;have Fa:=aA nj;have Iw:(g.map fun p=>pO (fg p.1))[i]? =some (pO (fg p.1)):=by rw[bB,nj];rfl
              obtain⟨Qe,tu⟩:=hg p Fa;have Oa:=RP p Fa;refine cF (M:=M6) cA Cr rfl rfl rfl hs (aq _ _) (by omega) (fun u43 x_ l2 ah9=>?_);rw[ay]at l2;obtain rfl:=aJ (Iw.symm.trans l2);refine bV (M:=M6) fu rfl rfl rfl rfl rfl ah9 (aq _ _) (fun v43 aia=>?_);have Ae:=j0.1 aia;obtain⟨a43,rfl⟩:=Ae.iC;refine ah rfl rfl (ah rfl rfl (ab ?_));apply T.J8 [0,1,2,4,5,6,7,3,8,9,10] 7 [0,3,4,5,6] 2 aD mixed
              ·simp+decide only[xT,sH,eS,j5,je,jf,fB,cV,ig,qc,cond_true,cond_false,Nat.reduceBEq,Nat.reduceAdd,beq_self_eq_true];rfl
              ·rfl
              ·rfl
              ·rfl
              ·rfl
              ·rfl
              ·rfl
              intro aib aic;have vR:=aic M6;have:=ak gp;replace eD:=(vR.mem _ this).2 eD;replace gp:=vR.aK gp;replace hs:=hs.le vR.le;replace tj:=tj.le vR.le;replace oG:=oG.le vR.le;replace Ae:=Ae.le (by decide) vR.le;replace eM:=eM.aM vR;replace gX:=gX.aM vR;replace hok:=hok.aM vR;replace fF:=fF.aM vR;replace uF:=uF.aM vR;replace hM:=vR.lt hM;have:=S.size;replace S:=S.aB vR;refine ad rfl rfl ?_;refine ab ⟨rfl,rfl,rfl,?_⟩;refine ad rfl rfl ?_;refine ab ⟨rfl,rfl,rfl,?_⟩;refine ad rfl rfl ?_;refine ab ⟨rfl,rfl,rfl,?_⟩;refine ad rfl rfl ?_;refine ab ⟨rfl,rfl,rfl,?_⟩;refine ad rfl rfl ?_;refine ab ⟨rfl,rfl,rfl,?_⟩;obtain⟨tt,htt⟩:∃x,tos[i]? =some x:=⟨_,au (by omega)⟩;have htd:tos.getD i []=tt:=by rw[az,htt];rfl
              have NO:=HS.2 i p nj;rw[htd]at NO;refine cF (M:=M6) cK kG rfl rfl rfl oG (aq _ _) (by omega) (fun aru x_ l2 RW=>?_);rw[ay]at l2;obtain rfl:=aJ (htt.symm.trans l2);refine ab ⟨rfl,rfl,rfl,?_⟩;refine bV (M:=M6) ao rfl rfl rfl rfl rfl RW (aq _ _) (fun arv zq=>?_);refine ab ⟨rfl,rfl,rfl,?_⟩;refine ff ?_;obtain⟨bb,oo,cs_,ee_,fr_,rfl,lj,hnM⟩:=RW.float;refine⟨jd ⟨gR,⟨gR,⟨gR,⟨bZ.idx,⟨eI rfl lj (fun h=>h),trivial⟩⟩⟩⟩⟩,?_⟩;have kp:=kd aD aib;have VD:=qF key p.1 0 (kr Qe);refine aX rfl rfl E36 (GN (ls:=(keysOf p.1).map (pk p.1)) (k:=key) _ hM Ae (k4 _) (Qb Qe (by omega))) (fun arw arx hc=>?_);obtain⟨Co,uG⟩:=hc;have aid:UT (pO (fg p.1)).2.2.1 ((keysOf p.1).map (pk p.1)) key=pk p.1 key:=UU _;rw[aid]at Co;have:=ak gp;replace eD:=(uG.mem _ this).2 eD;replace gp:=uG.aK gp;replace hs:=hs.le uG.le;replace tj:=tj.le uG.le;replace oG:=oG.le uG.le;replace Ae:=Ae.le (by decide) uG.le;replace zq:=zq.le uG.le;replace eM:=eM.aM uG;replace gX:=gX.aM uG;replace hok:=hok.aM uG;replace fF:=fF.aM uG;replace uF:=uF.aM uG;replace hM:=uG.lt hM;have:=S.size;replace S:=S.aB uG;refine(fun(kp:eO _ _ _)=>ab ⟨rfl,rfl,fun _=>kp,?_⟩) (by first|exact kp|exact kp.sG (by assumption)|exact kp.goN (by assumption)|exact kp.go (by assumption) (fun _ _ h=>by first|exact h|exact h.elim));refine aX rfl rfl E63 (GH _ hM Co zq (by have:(pk p.1 key).length≤p.1.length:=VD.1;omega) (fun x hx=>by have:=VD.2 x hx;rw[NO.1];omega)) (fun ary arz hc=>?_);obtain⟨arA,aap,_,p9⟩:=hc;have qh:=ti tt (pk p.1 key);have arB:(pk p.1 key).length≤p.1.length:=VD.1;have hmv:=Own.close (hn:=by decide) hM p9 aap (by omega);replace p9:=p9.back;have:=ak gp
              replace eD:=(p9.mem _ this).2 eD;replace gp:=p9.aK gp;replace hs:=hs.le p9.le;replace tj:=tj.le p9.le;replace oG:=oG.le p9.le;replace Ae:=Ae.le (by decide) p9.le;replace zq:=zq.le p9.le;replace Co:=Co.le p9.le;replace eM:=eM.aM p9;replace gX:=gX.aM p9;replace hok:=hok.aM p9;replace fF:=fF.aM p9;replace uF:=uF.aM p9;replace hM:=p9.lt hM;have:=S.size;replace S:=S.aB p9;refine(fun(kp:eO _ _ _)=>ab ⟨rfl,rfl,fun _=>kp,?_⟩) (by first|exact kp|exact kp.sG (by assumption)|exact kp.goN (by assumption)|exact kp.go (by assumption) (fun _ _ h=>by first|exact h|exact h.elim));refine cX (M:=M6) (base:=w0.heap.size) bF o0 rfl rfl rfl rfl uF hmv (aq _ _) (by omega) (by omega) (S.size) (fun aaq alS alT VE mN=>?_);have:=ak gp;replace eD:=(mN.mem _ this).2 eD;replace gp:=mN.keep gp (fun h=>by first|exact uF.ec gp h|exact uF.eK gp (by decide) h|(have:=(uF.base _ h).1;omega));replace hs:=hs.le mN.le;replace tj:=tj.le mN.le;replace oG:=oG.le mN.le;replace Ae:=Ae.le (by decide) mN.le;replace zq:=zq.le mN.le;replace Co:=Co.le mN.le;replace hmv:=hmv.le mN.le;replace eM:=eM.step mN (fun b h1 h2=>eM.dA uF (by decide) h1 h2);replace gX:=gX.step mN (fun b h1 h2=>gX.dA uF (by decide) h1 h2);replace hok:=hok.step mN (fun b h1 h2=>hok.dA uF (by decide) h1 h2);replace fF:=fF.step mN (fun b h1 h2=>fF.dA uF (by decide) h1 h2);replace hM:=mN.lt hM;have:=S.size;replace S:=S.dm mN uF (aR _);replace uF:=VE;refine ab ⟨rfl,rfl,fun h=>absurd rfl h,?_⟩;refine ah rfl rfl ?_;refine ab ⟨rfl,rfl,fun h=>absurd rfl h,?_⟩;refine nN (ae (bD rfl rfl rfl (by omega) (ad rfl rfl (ab ?_))));refine⟨rfl,(i+1,aaq),(.cons rfl (.cons rfl (.cons rfl (.cons rfl (.cons rfl (.cons rfl (.cons rfl (.cons rfl (.cons rfl (.cons rfl (.cons rfl .nil))))))))))),?_,?_⟩
              ·refine⟨by dsimp only;omega,_,hM,S,hs,tj,oG,gp,eD,eM,gX,hok,fF,?_⟩;dsimp only;rw[vI,htd,show(g.getD i ([],[]))=p from by rw[az,nj];rfl];exact uF
              ·dsimp only;omega
             ·refine cL (aj (ae ?_));have hig:i=g.length:=by omega
              rw[hig]at uF ah8;refine ad rfl rfl (fS bF rfl uF rfl (jc rfl rfl rfl (ab ?_)));refine bP rfl (fun c46=>?_) (fun c46=>?_)
              ·refine aj (ae (ad rfl rfl ?_));have aar:∀p∈g,p.1.length≤1000000:=fun p hp=>by have:=RP p hp;omega
               have arE:=fun b hb=>uF.base b hb
               refine aX rfl rfl E64 (Et _ uF (xA hg aar CP HS (aR _)) (by omega) (by omega)) (fun r47 Ql hc=>?_);obtain⟨rfl,s5,DP,P3,EH,NP⟩:=hc;obtain rfl:s5=pk ((ky g (dR out)).map (iL g)) key:=Ek hg aar hEl CP HS DP P3;replace eM:=eM.step NP (fun b h1 h2=>eM.dA uF (by decide) h1 h2);replace gX:=gX.step NP (fun b h1 h2=>gX.dA uF (by decide) h1 h2);replace hok:=hok.step NP (fun b h1 h2=>hok.dA uF (by decide) h1 h2);replace fF:=fF.step NP (fun b h1 h2=>fF.dA uF (by decide) h1 h2);replace eD:=(NP.mem _ (ak gp)).2 eD;replace gp:=NP.keep gp (fun h=>uF.eK gp (by decide) h);replace hs:=hs.le NP.le;replace tj:=tj.le NP.le;replace oG:=oG.le NP.le;replace S:=S.dm NP uF (aR _);replace hM:=NP.lt hM
               have aas:(fun k=> !(pk ((ky g (dR out)).map (iL g)) k).isEmpty) key=true:=by
                have h1:=DP.length_eq
                cases hx:pk ((ky g (dR out)).map (iL g)) key with
                |nil=>rw[hx]at h1;simp at h1;omega
                |cons a b=>simp[hx]
               have arF:(pk ((ky g (dR out)).map (iL g)) key).length≤1000000:=by have:=DP.length_eq;omega
               have NQ:=EH.view (hn:=by decide) (by omega);obtain⟨nJ,Cc⟩:∃M',M'=rm (M6) Oe:=⟨_,rfl⟩;have lrm:Le (M6) Ql nJ Ql:=by rw[Cc];exact fw _ _ _
               rw[←Cc]at NQ;replace hs:=hs.le lrm;replace tj:=tj.le lrm;replace oG:=oG.le lrm;replace eD:nJ fm:=by rw[Cc];exact⟨eD,EH.eK gp (by decide)⟩
               have VF:=eM.JI (v:=Oe) (fun b hb=>eM.dA EH (by decide) hb);rw[←Cc]at VF;clear eM;have eM:=VF;clear VF;have VG:=gX.JI (v:=Oe) (fun b hb=>gX.dA EH (by decide) hb);rw[←Cc]at VG;clear gX;have gX:=VG;clear VG;have VH:=hok.JI (v:=Oe) (fun b hb=>hok.dA EH (by decide) hb);rw[←Cc]at VH;clear hok;have hok:=VH;clear VH;have VI:=fF.JI (v:=Oe) (fun b hb=>fF.dA EH (by decide) hb);rw[←Cc]at VI;clear fF;have fF:=VI;clear VI;have hM_:=hM.rm Oe;rw[←Cc]at hM_;clear hM;have hM:=hM_;have S_:=S.freeze (v:=Oe) (fun b hb=>(EH.base b hb).1);rw[←Cc]at S_;clear S hM_ uF EH lrm;have S:=S_;clear S_;obtain⟨_,_,aih,_⟩:=iP.1 NQ;refine ab ?_;have arG:(((ju (g.map fun p=>keysOf p.1)).take qk).filter (fun k=> !(pk ((ky g (dR out)).map (iL g)) k).isEmpty)).length≤(ju (g.map fun p=>keysOf p.1)).length:=eJ (l5 _ _) (by rw[bC];omega);have gpp:=gp;have BS:=eM;have VJ:=gX;have Sj:=hs;have aii:=tj;have aij:=oG;have aat:=eD;have Cd:=hok;have GV:=fF;have Sp:=S;have hMp:=hM;obtain⟨P4,hP4⟩:∃P4:Value→World→Prop,P4=fun v w'=>Own RT.str 9 (mU v) w' w0.heap.size v ((((ju (g.map fun p=>keysOf p.1)).take qk).filter (fun k=> !(pk ((ky g (dR out)).map (iL g)) k).isEmpty))++[key])∧(∀c,v.ownBlock=some c→Ql.heap.size≤c∨Cs.ownBlock=some c):=⟨_,rfl⟩
               have h4:∀{v:Value} {w w':World},P4 v w→Step nJ w nJ w' aD→P4 v w':=fun {v w w'} h s=>by rw[hP4]at h ⊢;exact⟨h.1.RC nk s (fun _ _ h=>h),h.2⟩
               obtain⟨P8,hP8⟩:∃P8:Value→World→Prop,P8=fun v w'=>∃g,v= .slice (some ⟨g,0,none⟩) 1 1∧w'.heap[g]? =some (.cells #[Oe] 80 (0,0))∧Ql.heap.size≤g:=⟨_,rfl⟩
               have h8:∀{v:Value} {w w':World} {N:aC},P8 v w→Step nJ w nJ w' N→(∀b,N b→b<Ql.heap.size)→P8 v w':=fun {v w w' N} h s hN=>by
                rw[hP8]at h ⊢;obtain⟨g,a1,a2,a3⟩:=h;exact⟨g,a1,s.keep a2 (fun h=>by have:=hN g h;omega),a3⟩
               apply T.Rt (M:=nJ) [0,1,2,3,4,5,6,7,8,10,9,11,12,13] 10 9 194 (.pointer (some ⟨fm,2,none⟩)) [(4,fP Cs)] [cT.eq (.pointer (some ⟨fm,2,none⟩)),cT.eq Cs,cT.eq (.string ⟨key.toArray⟩),cT.V (RT.str.sl) [key],(cT.mk' (fun v w=>P4 v w) (fun h s=>h4 h s)),cT.eq (.pointer (some ⟨fm,3,none⟩)),cT.eq VC,cT.eq Oe,(⟨fun v w=>P8 v w,fun k=>k<Ql.heap.size,fun h s hN=>h8 h s hN⟩:cT nJ),cT.eq (.pointer (some ⟨fm,2,none⟩))] mixed
               ·simp+decide only[xT,sH,eS,j5,je,jf,fB,cV,ig,qc,cond_true,cond_false,Nat.reduceBEq,Nat.reduceAdd,beq_self_eq_true];rfl
               ·rfl
               ·rfl
               ·rfl
               ·rfl
               ·rfl
               ·rfl
               ·rfl
               ·rfl
               ·rfl
               ·rfl
               ·rfl
               ·exact fun ρ w h=>yS (size:=1) (o:=0) (o':=2) bU rfl rfl zz (by decide) (h (.tmp 19) _ rfl) w
               ·intro p hp b hb;simp only[bX,dJ,or_false]at hp;subst hp;exact hok.mut_ b hb
               ·exact fun p hp=>by
                 simp only[bX,dJ,or_false]at hp;subst hp;show(4:Nat)≠9;decide
               ·exact vX.st (by exact⟨fun _ _ _ _=>trivial,⟨fun _ _ _ _=>trivial,⟨fun _ _ _ _=>trivial,⟨fun _ _ _ _=>trivial,⟨fun p hp b hb=>(by simp at hp),⟨fun _ _ _ _=>trivial,⟨fun _ _ _ _=>trivial,⟨fun _ _ _ _=>trivial,⟨fun p hp b hb=>(by have h1:=bE.1 (fT.1 hp).1;subst h1;exact(Cd.base b hb).2),⟨fun _ _ _ _=>trivial,trivial⟩⟩⟩⟩⟩⟩⟩⟩⟩⟩)
               intro aim ain;have vS:=ain nJ;have:=ak gp;replace eD:=(vS.mem _ this).2 eD;replace gp:=vS.aK gp;replace hs:=hs.le vS.le;replace tj:=tj.le vS.le;replace oG:=oG.le vS.le;replace eM:=eM.aM vS;replace gX:=gX.aM vS;replace hok:=hok.aM vS;replace fF:=fF.aM vS;replace hM:=vS.lt hM;have:=S.size;replace S:=S.aB vS;have gpR:=gp;have aau:=hok;have arH:=vS.size;refine⟨?_,?_⟩
               ·refine aG ?_ ?_
                ·intro wD E sD;replace sD:Step nJ _ nJ wD (fP Cs):=sD;refine bN (o':=2) bU rfl rfl zz (by decide) rfl rfl ?_;exact ab ⟨rfl,rfl,_,rfl,rfl,ax _ _⟩
                refine aG ?_ ?_
                ·intro wD E sD;replace sD:Step nJ _ nJ wD aD:=sD;refine aP (aL aQ rfl rfl rfl (sD.aK gpR) rfl ?_);exact ab ⟨rfl,rfl,_,rfl,rfl,ax _ _⟩
                refine aG ?_ ?_
                ·intro wD E sD;replace sD:Step nJ _ nJ wD (fP Cs):=sD;refine ad rfl rfl ?_;exact ab ⟨rfl,rfl,_,rfl,rfl,ax _ _⟩
                refine aG ?_ ?_
                ·intro wD E sD;replace sD:Step nJ _ nJ wD aD:=sD;refine aP ?_;refine dQ (A:=RT.str) (hn:=by decide) (M:=nJ) aQ I9 (by decide) rfl rfl (sD.lt hM) (kF.2 ⟨rfl,E5⟩) (.inr ⟨rfl,rfl⟩) (fun uS wS hS sS=>?_);exact ab ⟨rfl,rfl,_,rfl,hS,sS⟩
                refine aG ?_ ?_
                ·intro wD E sD;replace sD:Step nJ _ nJ wD aD:=sD;refine aP ?_;intro v3 AE;replace sD:Step nJ aim nJ wD aD:=sD;refine nP (M:=nJ) (base:=w0.heap.size) aQ I9 rfl rfl rfl rfl (aau.aM sD) (show(RT.str.sl).V nJ wD [key] v3 from AE) (aq _ _) (by rw[ew];omega) (by rw[ew];omega) (by have:=sD.size;have:=S.size;omega) (fun vA wA hoA sA hFA=>?_);exact ab ⟨rfl,rfl,_,rfl,by show P4 vA wA;rw[hP4];exact⟨hoA.RB nk,fun c hc=>(hFA c hc).elim (fun h=> .inl (by have:=sD.size;omega)) .inr⟩,sA.back⟩
                refine aG ?_ ?_
                ·intro wD E sD;replace sD:Step nJ _ nJ wD (fP Cs):=sD;refine bN (o':=3) bU rfl rfl Gg (by decide) rfl rfl ?_;exact ab ⟨rfl,rfl,_,rfl,rfl,ax _ _⟩
                refine aG ?_ ?_
                ·intro wD E sD;replace sD:Step nJ _ nJ wD (fP Cs):=sD;refine aP (aL kE rfl rfl rfl (sD.keep gpR (fun h=>aau.eK gpR (by decide) h)) rfl ?_);exact ab ⟨rfl,rfl,_,rfl,rfl,ax _ _⟩
                refine aG ?_ ?_
                ·intro wD E sD;replace sD:Step nJ _ nJ wD (fP Cs):=sD;refine ad rfl rfl ?_;exact ab ⟨rfl,rfl,_,rfl,rfl,ax _ _⟩
                refine aG ?_ ?_
                ·intro wD E sD;replace sD:Step nJ _ nJ wD (fP Cs):=sD;refine aP ?_;refine Rg.ago (M:=nJ) kE zV rfl rfl (by rw[aih];rfl) (fun gS wS zS hS sS=>?_);exact ab ⟨rfl,rfl,_,rfl,by show P8 _ _;rw[hP8];exact⟨gS,rfl,hS,by have:=sD.size;omega⟩,sS⟩
                refine aG ?_ ?_
                ·intro wD E sD;replace sD:Step nJ _ nJ wD (fP Cs):=sD;refine aP (aP (aP ?_));intro v3 AE;intro v4 rU;refine aP (aP (bN (o':=2) bU rfl rfl zz (by decide) rfl rfl ?_));exact ab ⟨rfl,rfl,_,rfl,rfl,ax _ _⟩
                exact xo
               ·intro Js VK;replace VK:Step nJ _ nJ Js (fP Cs):=VK;refine aP (aP (aP ?_));intro alU aip;intro EI Ce;refine aP (aP (aP ?_));intro aav Cf;refine aP ?_;replace Ce:P4 EI Js:=Ce;rw[hP4]at Ce;obtain⟨qd,Zi⟩:=Ce;replace Cf:P8 aav Js:=Cf;rw[hP8]at Cf;obtain⟨g8,rfl,hg8,zg8⟩:=Cf;have sX:Step nJ Ql nJ Js (fP Cs):=(vS.cG (fun _ h=>h.elim) (fun b h=>Cd.mut_ b h)).trans VK (fun b _ h=>h);obtain⟨Hu,L3⟩:∃M',M'=jA nJ EI:=⟨_,rfl⟩;have sY:Step nJ Ql Hu Js (fP Cs):=by rw[L3];exact sX.Y7 (fun c hc=>⟨(qd.base c hc).2,(Zi c hc).elim .inl (fun h=> .inr (Cd.mut_ c h))⟩)
                have aaw:=GV.step sY (fun c hc h=>GV.dA Cd (by decide) hc h);have VL:=NQ.le sY.le
                have XQ:((RT.po.sl).sl).V Hu Js [pk ((ky g (dR out)).map (iL g)) key] (.slice (some ⟨g8,0,none⟩) 1 1):=by
                 refine iP.2 ⟨_,1,rfl,aR _,by simp,.inr ⟨g8,0,rfl,fun h=>?_,fun i x hx=>?_⟩⟩
                 ·rw[L3]at h;rcases h with h|h
                  ·exact qd.eK hg8 (by decide) h
                  ·have:=hMp _ h;omega
                 ·cases i with
                  |zero=>
                   simp at hx;subst hx;obtain⟨vs,h1,h2⟩:=VL;obtain⟨a,cap,rfl,h3⟩:=h1;refine⟨_,⟨a,cap,rfl,h3⟩,fun j u hj=>?_⟩
                   cases j with
                   |zero=>simp at hj;subst hj;rw[show Value.slice a _ cap=Oe from h2.symm];exact fX hg8 rfl
                   |succ j=>simp at hj
                  |succ i=>simp at hx
                have arI:((((ju (g.map fun p=>keysOf p.1)).take qk).filter (fun k=> !(pk ((ky g (dR out)).map (iL g)) k).isEmpty)).map (pk ((ky g (dR out)).map (iL g)))).length≤(ju (g.map fun p=>keysOf p.1)).length:=by rw[aI];exact eJ (l5 _ _) (by rw[bC];omega)
                refine nP (M:=Hu) (base:=w0.heap.size) kE zV rfl rfl rfl rfl aaw XQ (aq _ _) (by rw[ew];omega) (by rw[ew];omega) (by have:=Sp.size;have:=sY.size;omega) (fun v12 V3 PJ zM UX=>?_);have aiq:=qd.RC nk zM (fun c hc h=>qd.dA aaw (by decide) hc h);have sW:Step nJ Ql (jA Hu v12) V3 (fun k=>fP Cs k∨fP VC k):=(sY.cG (fun _ h=> .inl h) (fun b h=>h.elim (Cd.mut_ b) (GV.mut_ b))).trans zM (fun b _ h=> .inr h);obtain⟨PK,I0⟩:∃M',M'=jA Hu v12:=⟨_,rfl⟩;rw[←I0]at sW PJ;have hok:=aiq.PV nk (M':=PK) (by rw[I0,L3];exact fun b hb=> .inr (.inl hb));have fF:=PJ;have eD:=(sW.mem _ (ak gpp)).2 aat;have gp:=sW.keep gpp (fun h=>h.elim (Cd.eK gpp (by decide)) (GV.eK gpp (by decide)));have eM:=BS.step sW (fun b h1 h2=>h2.elim (fun h=>BS.dA Cd (by decide) h1 h) (fun h=>BS.dA GV (by decide) h1 h));have gX:=VJ.step sW (fun b h1 h2=>h2.elim (fun h=>VJ.dA Cd (by decide) h1 h) (fun h=>VJ.dA GV (by decide) h1 h));have hs:=Sj.le sW.le;have tj:=aii.le sW.le;have oG:=aij.le sW.le;have S:=Sp.cg sW (fun k hk=>hk.elim (fun h=>(Cd.base k h).1) (fun h=>(GV.base k h).1));have hM:=sW.lt hMp;refine ab ⟨rfl,rfl,fun h=>absurd rfl h,?_⟩;obtain⟨_,_,Qm,_⟩:=hok.isSlice;refine cu (M:=PK) zz rfl rfl gp rfl (by rw[Qm];rfl) eD (fun TQ g14 jV=>?_);replace g14:TQ.heap[fm]? =some (.cells #[vi,vq,EI,VC] 72 (0,0)):=g14;replace eM:=eM.step jV (fun c hc (h:c=fm)=>eM.eK gp (by decide) (h▸hc));replace gX:=gX.step jV (fun c hc (h:c=fm)=>gX.eK gp (by decide) (h▸hc));replace hok:=hok.step jV (fun c hc (h:c=fm)=>hok.eK gp (by decide) (h▸hc));replace fF:=fF.step jV (fun c hc (h:c=fm)=>fF.eK gp (by decide) (h▸hc));replace eD:=(jV.mem _ (ak gp)).2 eD;replace hs:=hs.le jV.le;replace tj:=tj.le jV.le;replace oG:=oG.le jV.le;replace S:=S.cg jV (fun k (hk:k=fm)=>by rw[hk];omega)
                replace hM:=jV.lt hM;clear gp;have gp:=g14;refine ab ⟨rfl,rfl,fun h=>absurd rfl h,?_⟩;refine bN (o':=3) bU rfl rfl Gg (by decide) rfl rfl ?_;refine ab ⟨rfl,rfl,fun h=>absurd rfl h,?_⟩;obtain⟨_,_,Qn,_⟩:=fF.isSlice;refine cu (M:=PK) Gg rfl rfl gp rfl (by rw[Qn];rfl) eD (fun Wj g16 AS=>?_);replace g16:Wj.heap[fm]? =some (.cells #[vi,vq,EI,v12] 72 (0,0)):=g16;replace eM:=eM.step AS (fun c hc (h:c=fm)=>eM.eK gp (by decide) (h▸hc));replace gX:=gX.step AS (fun c hc (h:c=fm)=>gX.eK gp (by decide) (h▸hc));replace hok:=hok.step AS (fun c hc (h:c=fm)=>hok.eK gp (by decide) (h▸hc));replace fF:=fF.step AS (fun c hc (h:c=fm)=>fF.eK gp (by decide) (h▸hc));replace eD:=(AS.mem _ (ak gp)).2 eD;replace hs:=hs.le AS.le;replace tj:=tj.le AS.le;replace oG:=oG.le AS.le;replace S:=S.cg AS (fun k (hk:k=fm)=>by rw[hk];omega);replace hM:=AS.lt hM;clear gp;have gp:=g16;refine ab ⟨rfl,rfl,fun h=>absurd rfl h,?_⟩;refine nN (ae (bD rfl rfl rfl (by omega) (ad rfl rfl (ab ?_))));refine⟨rfl,(qk+1,EI,v12),(.cons rfl (.cons rfl (.cons rfl (.cons rfl (.cons rfl (.cons rfl .nil)))))),?_,?_⟩
                ·refine⟨by dsimp only;omega,_,hM,S,hs,tj,oG,gp,eD,eM,gX,?_,?_⟩
                 ·dsimp only;rw[np hkq,if_pos aas];exact hok
                 ·dsimp only;rw[np hkq,if_pos aas,eA];exact fF
                ·dsimp only;omega
              ·refine aT (ae (bD rfl rfl rfl (by omega) (ad rfl rfl (ab ?_))));refine⟨rfl,(qk+1,Cs,VC),(.cons rfl (.cons rfl (.cons rfl (.cons rfl (.cons rfl (.cons rfl .nil)))))),?_,?_⟩
               ·have rz:pk ((ky g (dR out)).map (iL g)) key=[]:=by
                 have h1:=(vJ (k:=key) hg (fun p hp=>by have:=RP p hp;omega) hEl CP HS).length_eq;exact cP.1 (by omega)
                refine⟨by dsimp only;omega,_,hM,S,hs,tj,oG,gp,eD,eM,gX,?_,?_⟩
                ·dsimp only;rw[np hkq,if_neg (by rw[rz];simp)];exact hok
                ·dsimp only;rw[np hkq,if_neg (by rw[rz];simp)];exact fF
               ·dsimp only;omega
           ·refine cL (aj (ae (iM (vs:=[vi,vq,Cs,VC]) bU rfl PD rfl rfl rfl gp ?_)));have aax:=I8 CP hJu (fun x=>(hJm x).trans ⟨fun⟨l,hl,hx⟩=>(ca.1 hl).elim fun p hp=>⟨p,hp.1,hp.2▸hx⟩,fun⟨p,hp,hx⟩=>⟨_,ca.2 ⟨p,hp,rfl⟩,hx⟩⟩);rw[br (by omega),aax]at hok fF;have hFE:=kr (CP.ok hg)
            have hkE:(keysOf ((ky g (dR out)).map (iL g))).length≤1000000000:=by
             rw[←aax];exact eJ (l5 _ _) (by omega)
            have Uo:RT.pa.V M _ (fg ((ky g (dR out)).map (iL g))) _:=Ya (x:=fg ((ky g (dR out)).map (iL g))) (eM.close lC S (by show(List.map _ _).length≤_;rw[aI];omega)) (gX.close lC S (by show(List.map _ _).length≤_;rw[aI];omega)) (hok.close lC S (by show(keysOf _).length≤_;omega)) (fF.close lC S (by show((keysOf _).map _).length≤_;rw[aI];omega));replace S:=S.back;replace hM:=S.lt lC;refine aX rfl rfl E43 (yR (p:=fg ((ky g (dR out)).map (iL g))) _ hM Uo (HB hFE hEl)) (fun arK arL hc=>?_);obtain⟨air,MV,_⟩:=hc;obtain⟨sg,rfl,yh⟩:=MV (MF (CP.ok hg) hEl);replace S:=S.aB air;refine bK rfl rfl rfl (bK rfl rfl rfl (ah rfl rfl (ah rfl rfl (ab (aN ?_)))));exact eU rfl rfl rfl ⟨S,.inl ⟨_,_,CP,_,rfl,yh⟩⟩
end Go.K
namespace Go.K
open Go.Proofs
namespace TKBPut
theorem Em:TI Tryz.prog 131 (.slice none 0 0) 1 24:=by unfold TI;kernel_rfl
theorem y9:TI Tryz.prog 190 (.int .u64 0) 1 8:=by unfold TI;kernel_rfl
end TKBPut
open TKBPut
set_option maxRecDepth 10000
theorem jI.aay {M M' N:aC} {w0 w:World} {n:Nat} {ws:List Nat} {bs bw:Nat} {a:List Bool} (hM:Lt M w0) (h:jI 133 190 n ws M' w bs bw) (z1:w0.heap.size≤bs) (z2:w0.heap.size≤bw) (ha:a.length=n) (hb:∀j,bit ws j=true↔a[j]? =some true):uu M w a bs:=
 ⟨ws,⟨bw,⟨trivial,trivial,h.ne,by rw[ha];exact h.s,h.w,by rw[ha];exact h.len,h.ok,by rw[ha];exact h.nn⟩,fun hb=>by have:=hM _ hb;omega,fun hb=>by have:=hM _ hb;omega⟩,hb⟩
theorem Jt {M:aC} {w0:World} {n:Nat} (hM:Lt M w0) (hn:n≤1099511627776):Spec Tryz.prog 24 #[.int .i64 n] w0 (fun v w=>∃bs,v= .pointer (some ⟨bs,0,none⟩)∧uu M w (List.replicate n false) bs∧Step M w0 M w aD):=
 (vK (M:=M) hn).mono fun v w ⟨bs,bw,h1,z1,z2,s,h⟩=>⟨bs,h1,h.aay (N:=aD) hM z1 z2 (bM ..) (fun j=>by
  rw[x7,iT];constructor
  ·intro h;cases h
  ·intro h;split at h<;>simp at h),s.back⟩
theorem mO {M:aC} {w0:World} {n:Nat} (hM:Lt M w0) (hn:n≤1099511627776):Spec Tryz.prog 23 #[.int .i64 n] w0 (fun v w=>∃bs,v= .pointer (some ⟨bs,0,none⟩)∧uu M w (List.replicate n true) bs∧Step M w0 M w aD):=
 (Jf (M:=M) hn).mono fun v w ⟨bs,bw,ws,M',h1,z1,z2,s,h,hb⟩=>⟨bs,h1,h.aay (N:=aD) hM z1 z2 (bM ..) (fun j=>by
  rw[hb,iT];constructor
  ·intro h;rw[if_pos (by simpa using h)]
  ·intro h;split at h
   ·rename_i h1;simpa using h1
   ·cases h),s.back⟩
end Go.K
namespace Go.K
open Go.Proofs
namespace TKRef11
theorem ku:TI Tryz.prog 124 (.agg #[(.int .i64 0),(.int .i64 0)]) 2 16:=by unfold TI;kernel_rfl
end TKRef11
open TKRef11
set_option maxRecDepth 10000
end Go.K
namespace Go.K
open Go.Proofs
namespace TKLives11
theorem ku:TI Tryz.prog 124 (.agg #[(.int .i64 0),(.int .i64 0)]) 2 16:=by unfold TI;kernel_rfl
theorem E59:Enters Tryz.prog 59:=enters Tryz.func59 rfl (by decide)
end TKLives11
open TKLives11
set_option maxRecDepth 10000
theorem Cg {M:aC} {w0:World} (hM:Lt M w0):
  Spec Tryz.prog 25 #[] w0 (fun v' w'=>v'= .bool true∧Step M w0 M w' aD):=by
 refine bc (args:=[]) (fn:=Tryz.f25) Tryz.func25 rfl (n:=36) Tryz.ntmps25 (aj (ae (ah rfl rfl (ab (aj (ae ?_))))));refine Rg.NX (A:=RT.int .i64) (hn:=by decide) (M:=M) (xs:=[1,4]) ao I3 rfl (by decide) rfl ⟨1,[4],_,rfl,rfl,rfl,gm (by omega),4,[],_,rfl,rfl,rfl,gm (by omega),rfl⟩ rfl hM (.inr ⟨rfl,rfl⟩) (by decide) (fun u1 w1 Qw s1=>?_);refine dQ (A:=RT.int .i64) (hn:=by decide) (M:=M) ao I3 (by decide) rfl rfl (s1.lt hM) (gm (x:=2) (by decide)) (.inr ⟨rfl,rfl⟩) (fun u2 w2 xe s2=>?_);refine Rg.NX (A:=((RT.int .i64).sl)) (hn:=by decide) (M:=M) (xs:=[[1,4],[2]]) cK kG rfl (by decide) rfl ⟨_,_,_,rfl,rfl,rfl,Qw.le s2.le,_,_,_,rfl,rfl,rfl,xe,rfl⟩ rfl (s2.lt (s1.lt hM)) (.inr ⟨rfl,rfl⟩) (by decide) (fun u3 w3 Q5 s3=>?_);have S3:=(s1.aB s2).aB s3;refine aX rfl rfl E59 (EC (S3.lt hM) Q5 (by decide) (by decide) (by decide)) (fun r4 w4 h=>?_);obtain⟨⟨vo,e,rfl,ho⟩,s4⟩:=h;have S4:=S3.aB s4
 obtain⟨rfl,fz⟩:e=0∧((RT.fo).sl).V M w4 (dR [((1:Int),(0:Int),(0:Int)),(2,1,0),(4,0,1)]) vo:=by
  rcases ho with⟨h,_⟩|⟨_,r,h2,h3⟩
  ·exact absurd MZ h
  ·obtain rfl:=h2.un I7;rcases h3 with⟨h,_⟩|⟨out,h4,h5,h6⟩
   ·cases h
   ·cases h4;exact⟨h5,h6⟩
 replace fz:((RT.fo).sl).V M w4 [((0:Int),(0:Int)),(1,0),(0,1)] vo:=fz;refine ad rfl rfl (bK rfl rfl rfl (bK rfl rfl rfl (ah rfl rfl (ah rfl rfl (ab (aj (aj (ae (ad rfl rfl (bJ eQ rfl fz rfl (fp rfl rfl rfl ?_)))))))))));refine ab (T.tx rfl ((fun h=>h rfl)) (aT (aj (ae (ad rfl rfl ?_)))));refine cF (M:=M) eQ ku rfl rfl rfl (fz) (aq _ _) (by first|omega|decide) (fun XB ais aaz XN=>?_);obtain rfl:(0,0)=ais:=dC (aJ (aaz.symm.trans rfl));refine de (M:=M) (A:=RT.fo) cw rfl ku (by decide) rfl rfl rfl (by assumption) (aq _ _) (fun va pW=>?_);obtain⟨rfl,_,_⟩:=rh pW;refine Rg.OH cw ku I3 rfl rfl rfl (Rg.Fk cw aw I3 (by kernel_rfl) (by kernel_rfl) rfl rfl rfl (ad rfl rfl (Rg.Af (g:=18) rfl (rfl) (al rfl rfl (ad rfl rfl (al rfl rfl ?_))))));refine cF (M:=M) eQ ku rfl rfl rfl (fz) (aq _ _) (by first|omega|decide) (fun arM ait aaA alW=>?_);obtain rfl:(1,0)=ait:=dC (aJ (aaA.symm.trans rfl));refine al rfl rfl ?_;refine de (M:=M) (A:=RT.fo) cw rfl ku (by decide) rfl rfl rfl (by assumption) (aq _ _) (fun va pW=>?_);obtain⟨rfl,_,_⟩:=rh pW;refine al rfl rfl (Rg.OH cw ku I3 rfl rfl rfl (al rfl rfl (Rg.Fk cw aw I3 (by kernel_rfl) (by kernel_rfl) rfl rfl rfl (aW rfl rfl rfl (ad rfl rfl (Rg.Af (g:=25) rfl (rfl) (al rfl rfl (ad rfl rfl (al rfl rfl ?_)))))))));refine cF (M:=M) eQ ku rfl rfl rfl (fz) (aq _ _) (by first|omega|decide) (fun YK Mm Ge Uw=>?_);obtain rfl:(0,1)=Mm:=dC (aJ (Ge.symm.trans rfl));refine al rfl rfl ?_;refine de (M:=M) (A:=RT.fo) cw rfl ku (by decide) rfl rfl rfl (by assumption) (aq _ _) (fun va pW=>?_)
 obtain⟨rfl,_,_⟩:=rh pW;refine al rfl rfl (Rg.OH cw ku I3 rfl rfl rfl (al rfl rfl (Rg.Fk cw aw I3 (by kernel_rfl) (by kernel_rfl) rfl rfl rfl (aW rfl rfl rfl (ad rfl rfl (Rg.Af (g:=32) rfl (rfl) (al rfl rfl (ad rfl rfl (al rfl rfl (k7 rfl rfl rfl (aW rfl rfl rfl ?_)))))))))));refine ah rfl rfl (ab (aN ?_));exact aU rfl rfl ⟨rfl,S4⟩
end Go.K
namespace Go.K
open Go.Proofs
namespace TKNone11
theorem Cr:TI Tryz.prog 25 (.pointer none) 1 8:=by unfold TI;kernel_rfl
theorem Jg:TI Tryz.prog 47 (.pointer none) 1 8:=by unfold TI;kernel_rfl
theorem E11:Enters Tryz.prog 11:=enters Tryz.func11 rfl (by decide)
theorem E12:Enters Tryz.prog 12:=enters Tryz.func12 rfl (by decide)
theorem VM:Enters Tryz.prog 22:=enters Tryz.func22 rfl (by decide)
theorem Wo:Enters Tryz.prog 23:=enters Tryz.func23 rfl (by decide)
theorem ZB:Enters Tryz.prog 24:=enters Tryz.func24 rfl (by decide)
theorem E25:Enters Tryz.prog 25:=enters Tryz.func25 rfl (by decide)
theorem E34:Enters Tryz.prog 34:=enters Tryz.func34 rfl (by decide)
theorem E38:Enters Tryz.prog 38:=enters Tryz.func38 rfl (by decide)
end TKNone11
open TKNone11
set_option maxRecDepth 10000
theorem lv.one {M:aC} {w:World} {L:List En} {a:List Bool} {b:Nat} (h:uu M w a b):lv M w [(L,a)] [b]:=⟨rfl,fun i b' p h1 h2=>by
 cases i with
 |zero=>simp only[dW,cH]at h1 h2;subst h1;subst h2;exact h
 |succ i=>simp at h1⟩
theorem lv.cons {M:aC} {w:World} {g:Gs} {bs:List Nat} {L:List En} {a:List Bool} {b:Nat} (h:uu M w a b) (h':lv M w g bs):lv M w ((L,a)::g) (b::bs):=⟨by rw[cD,cD,h'.1],fun i b' p h1 h2=>by
 cases i with
 |zero=>simp only[dW,cH]at h1 h2;subst h1;subst h2;exact h
 |succ i=>simp only[kL]at h1 h2;exact h'.2 i b' p h1 h2⟩
theorem A6 {L:List En} (h:tv (-1) L=true):(keysOf L).length≤500*L.length:=by
 have h1:=(k4 L).nodup.length_le_of_subset (l₂:=iE L) (fun x hx=>jt.1 hx);have:=ot (kr h);omega
theorem aiu {L:List En} {a:List Bool} (h:tv (-1) L=true) (ha:a.length=L.length):HG [(L,a)]:=fun p hp=>by rw[bE]at hp;subst hp;exact⟨h,ha⟩
theorem EJ {M:aC} {L:List En} {a:List Bool} {b:Nat} {v0 v1:Value} {w0:World} (hM:Lt M w0) (hs:(((RT.se).ptr).sl).V M w0 [pO (fg L)] v0) (hb:(RT.CS.sl).V M w0 [b] v1) (dr:uu M w0 a b) (hok:tv (-1) L=true) (ha:a.length=L.length) (hn:L.length≤100) (h0: ¬M 1) (BX:∃e fr,w0.heap[1]? =some (.cells (Fj.map fun(k:Nat)=>Value.int .u8 (k:Int)).toArray e fr)):
  Spec Tryz.prog 22 #[v0,v1] w0 (fun v w=>∃s,v= .tuple #[s,.int .i64 0]∧dg RT.se M w s (pO (fg (Ja (L.zip a))))∧Step M w0 M w aD):=by
 have hk:=A6 hok;refine (zo (g:=[(L,a)]) (bs:=[b]) hM hs hb (lv.one dr) (aiu hok ha) (by simp) (fun p hp=>by rw[bE]at hp;subst hp;show L.length≤_;omega) (fun p hp=>by rw[bE]at hp;subst hp;show(keysOf L).length≤_;omega) h0 BX).mono fun v w ⟨s,h⟩=> ?_
 obtain⟨os,E,CP,sg,rfl,yh⟩:=h.resolve_right (fun h=>GB (y4 hok) h.1);obtain rfl:=U1 (y4 hok) CP;exact⟨sg,rfl,yh,s⟩
end Go.K
namespace Go.K
open Go.Proofs
namespace TKNo11
theorem Cr:TI Tryz.prog 25 (.pointer none) 1 8:=by unfold TI;kernel_rfl
theorem Jg:TI Tryz.prog 47 (.pointer none) 1 8:=by unfold TI;kernel_rfl
theorem E56:Enters Tryz.prog 56:=enters Tryz.func56 rfl (by decide)
end TKNo11
open TKNo11
set_option maxRecDepth 10000
def RT.NR:RT Unit where
 n:=1
 agg:=false
 R:=fun _ _ _ vs=>vs=[.pointer none]
 len:=by rintro _ _ x vs rfl;rfl
 one:=by rintro _ _ x vs rfl v hv;simp at hv;subst hv;rfl
 le:=fun _ h=>h
theorem Ch {M:aC} {w:World} {v:Value}:RT.NR.V M w () v↔v= .pointer none:=⟨fun⟨_,h1,h2⟩=>by cases h1;exact h2,fun h=>⟨_,rfl,h⟩⟩
theorem EK {M:aC} {ss:List Se} {bs:List Nat} {v0 v1:Value} (w0:World) (hs:(((RT.se).ptr).sl).V M w0 ss v0) (hb:(RT.CS.sl).V M w0 bs v1) (hl:ss.length≠bs.length):
  Spec Tryz.prog 56 #[v0,v1] w0 (fun v w=>v= .bool false∧w=w0):=by
 refine bc (args:=[_,_]) (fn:=Tryz.f56) Tryz.func56 rfl (n:=39) Tryz.ntmps56 (aj (ae (ah rfl rfl (ab (aj (aj (ae (ad rfl rfl (bJ cA rfl hs rfl (ad rfl rfl (bJ fv rfl hb rfl ?_)))))))))));refine fp rfl rfl rfl (ab (T.R5 rfl ((by omega)) (aj (ae (ah rfl rfl (ab (aN ?_)))))));exact aU rfl rfl ⟨rfl,rfl⟩
theorem EL {M:aC} {b:Nat} {v0 v1:Value} (w0:World) (hs:(RT.NR.sl).V M w0 [()] v0) (hb:(RT.CS.sl).V M w0 [b] v1):
  Spec Tryz.prog 56 #[v0,v1] w0 (fun v w=>v= .bool false∧w=w0):=by
 refine bc (args:=[_,_]) (fn:=Tryz.f56) Tryz.func56 rfl (n:=39) Tryz.ntmps56 (aj (ae (ah rfl rfl (ab (aj (aj (ae (ad rfl rfl (bJ cA rfl hs rfl (ad rfl rfl (bJ fv rfl hb rfl ?_)))))))))));refine fp rfl rfl rfl (ab (T.tx rfl ((by simp)) (aT (aj (aj (ae (ad rfl rfl (bJ cA rfl hs rfl (ad rfl rfl (ab (aZ ?_)))))))))));refine dn (σ:=Unit) (fun q=>[(1,v1),(12,v0),(13,.int .i64 1),(14,.int .i64 0)]) (fun q w=>w=w0) (fun q=>0) () (.cons rfl (.cons rfl (.cons rfl (.cons rfl .nil)))) ?_ ?_
 ·rfl
 ·rintro⟨⟩ w rfl;refine aj (ae (cf rfl rfl rfl (ab (aj (T.R5 rfl ((by simp)) (aT (aj (aZ (aj (ae (ad rfl rfl ?_)))))))))));refine cF (M:=M) cA Cr rfl rfl rfl hs (aq _ _) (by simp) (fun u5 x_ l2 zL=>?_)
  cases x_;refine bV (M:=M) fu rfl rfl rfl rfl rfl zL (aq _ _) (fun v5 oF=>?_);obtain rfl:=Ch.1 oF;refine ah rfl rfl (ah rfl rfl (ab (aj (ae (ad rfl rfl (Rg.CN fu rfl rfl rfl (ad rfl rfl (Rg.Af (g:=21) rfl ((by simp)) (ar rfl rfl rfl rfl (ar rfl rfl rfl rfl (ar rfl rfl rfl rfl ?_)))))))))));refine ar rfl rfl rfl rfl (ar rfl rfl rfl rfl (aW rfl rfl rfl (ad rfl rfl (ar rfl rfl rfl rfl (ar rfl rfl rfl rfl (ar rfl rfl rfl rfl (ar rfl rfl rfl rfl (ar rfl rfl rfl rfl (ar rfl rfl rfl rfl (ar rfl rfl rfl rfl (ar rfl rfl rfl rfl ?_)))))))))));refine aW rfl rfl rfl (ab (lD rfl (aj (ae (ah rfl rfl (ab (aN ?_)))))));exact aU rfl rfl ⟨rfl,rfl⟩
theorem EM {M:aC} {s:Se} {v0 v1:Value} (w0:World) (hs:(((RT.se).ptr).sl).V M w0 [s] v0) (hb:(RT.NR.sl).V M w0 [()] v1):
  Spec Tryz.prog 56 #[v0,v1] w0 (fun v w=>v= .bool false∧w=w0):=by
 refine bc (args:=[_,_]) (fn:=Tryz.f56) Tryz.func56 rfl (n:=39) Tryz.ntmps56 (aj (ae (ah rfl rfl (ab (aj (aj (ae (ad rfl rfl (bJ cA rfl hs rfl (ad rfl rfl (bJ fv rfl hb rfl ?_)))))))))));refine fp rfl rfl rfl (ab (T.tx rfl ((by simp)) (aT (aj (aj (ae (ad rfl rfl (bJ cA rfl hs rfl (ad rfl rfl (ab (aZ ?_)))))))))));refine dn (σ:=Unit) (fun q=>[(1,v1),(12,v0),(13,.int .i64 1),(14,.int .i64 0)]) (fun q w=>w=w0) (fun q=>0) () (.cons rfl (.cons rfl (.cons rfl (.cons rfl .nil)))) ?_ ?_
 ·rfl
 ·rintro⟨⟩ w rfl;refine aj (ae (cf rfl rfl rfl (ab (aj (T.R5 rfl ((by simp)) (aT (aj (aZ (aj (ae (ad rfl rfl ?_)))))))))));refine cF (M:=M) cA Cr rfl rfl rfl hs (aq _ _) (by simp) (fun u5 x_ l2 zL=>?_);obtain rfl:s=x_:=by simpa using l2
  refine bV (M:=M) fu rfl rfl rfl rfl rfl zL (aq _ _) (fun v5 oF=>?_);have U3:=j0.1 oF;obtain⟨a5,rfl⟩:=U3.iC;refine ah rfl rfl (ah rfl rfl (ab (aj (ae (ad rfl rfl (Rg.CN fu rfl rfl rfl (ad rfl rfl (Rg.EZ (g:=21) rfl ((by simp)) (al rfl rfl (ad rfl rfl (al rfl rfl ?_)))))))))));refine ad rfl rfl (al rfl rfl ?_);refine cF (M:=M) fv Jg rfl rfl rfl hb (aq _ _) (by simp) (fun u6 x_ l2 Fz=>?_)
  cases x_;refine al rfl rfl ?_;refine bV (M:=M) nQ rfl rfl rfl rfl rfl Fz (aq _ _) (fun v6 uM=>?_);obtain rfl:=Ch.1 uM;refine al rfl rfl (Rg.CN nQ rfl rfl rfl (aE rfl rfl rfl (ad rfl rfl (Rg.Af (g:=28) rfl ((by simp)) (ar rfl rfl rfl rfl (ar rfl rfl rfl rfl (ar rfl rfl rfl rfl (ar rfl rfl rfl rfl (ar rfl rfl rfl rfl (ar rfl rfl rfl rfl (ar rfl rfl rfl rfl ?_)))))))))));refine ar rfl rfl rfl rfl (aW rfl rfl rfl (ab (lD rfl (aj (ae (ah rfl rfl (ab (aN ?_))))))));exact aU rfl rfl ⟨rfl,rfl⟩
theorem lW {v0 v1:Value} {w0:World} (mW:Spec Tryz.prog 56 #[v0,v1] w0 (fun v w=>v= .bool false∧w=w0)):
  Spec Tryz.prog 22 #[v0,v1] w0 (fun v w=>v= .tuple #[.pointer none,.int .i64 1]∧w=w0):=by
 refine bc (args:=[_,_]) (fn:=Tryz.f22) Tryz.func22 rfl (n:=201) Tryz.ntmps22 (aj (ae (ah rfl rfl (ah rfl rfl (ab (aj (aj (ae (ad rfl rfl (ad rfl rfl ?_))))))))));refine aX rfl rfl E56 mW (fun r1 w1 hc=>?_);obtain⟨rfl,e1⟩:=hc;obtain rfl:w0=w1:=e1.symm;refine mS rfl rfl (aV (v':= .bool true) rfl (ab (lD rfl (aj (ae (ah rfl rfl (ah rfl rfl (ab (aN ?_)))))))));exact eU rfl rfl rfl ⟨rfl,rfl⟩
theorem NS {L:List En} {n m i d:Nat} {e:En} (h:lu [(L,List.replicate n true),(L,List.replicate m false)] i d e):i=0∧L[d]? =some e:=by
 obtain⟨L',a',h1,h2,h3⟩:=h
 match i with
 |0=>simp only[dW,cH,dq]at h1;obtain⟨rfl,_⟩:=h1;exact⟨rfl,h2⟩
 |1=>
  simp only[kL,dW,cH,dq]at h1;obtain⟨_,rfl⟩:=h1;rw[iT]at h3
  split at h3<;>simp at h3
 |i+2=>simp at h1
theorem VN {L:List En} {n m:Nat} (hu:L.Pairwise fun a b=>a.2<b.2): ¬wO [(L,List.replicate n true),(L,List.replicate m false)]:=by
 rintro⟨i,d,i',d',e,e',h1,h2,eN,he⟩;obtain⟨rfl,g1⟩:=NS h1;obtain⟨rfl,g2⟩:=NS h2;exact eN ⟨rfl,Nf hu g1 g2 he⟩
theorem Qo {a b:List Bool}: ¬wO [([],a),([],b)]:=by
 rintro⟨i,d,i',d',e,e',⟨L,a',h1,h2,_⟩,_⟩
 match i with
 |0=>simp only[dW,cH,dq]at h1;obtain⟨rfl,_⟩:=h1;simp at h2
 |1=>simp only[kL,dW,cH,dq]at h1;obtain⟨rfl,_⟩:=h1;simp at h2
 |i+2=>simp at h1
theorem VO {L:List En} {os:List Fo} {E:List En} (h:Mg [(L,List.replicate L.length true),(L,List.replicate L.length true)] os E):L=[]:=by
 cases hL:L with
 |nil=>rfl
 |cons e L'=>
  exfalso;rw[hL]at h;have t:(List.replicate (e::L').length true)[0]? =some true:=rfl;have a1:=h.all 0 0 e ⟨_,_,rfl,rfl,t⟩;have a2:=h.all 1 0 e ⟨_,_,rfl,rfl,t⟩;obtain⟨k,hk⟩:=bm.1 a1;obtain⟨k',ry⟩:=bm.1 a2;obtain⟨i,d,x,e1,e2,e3⟩:=h.at_ k _ hk;obtain⟨i',d',x',f1,f2,f3⟩:=h.at_ k' _ ry;simp only[dq]at e1 f1;obtain rfl:i=0:=by omega
  obtain rfl:d=0:=by omega
  obtain rfl:i'=1:=by omega
  obtain rfl:d'=0:=by omega
  obtain rfl:=e3.un ⟨_,_,rfl,rfl,t⟩;obtain rfl:=f3.un ⟨_,_,rfl,rfl,t⟩;obtain rfl:=Nf h.up e2 f2 rfl;rw[hk]at ry;simp at ry
theorem wU {M:aC} {L:List En} {a c:List Bool} {b b':Nat} {v0 v1:Value} {w0:World} (hM:Lt M w0) (hs:(((RT.se).ptr).sl).V M w0 [pO (fg L),pO (fg L)] v0) (hb:(RT.CS.sl).V M w0 [b,b'] v1) (dr:uu M w0 a b) (aaB:uu M w0 c b') (hok:tv (-1) L=true) (ha:a.length=L.length) (hc:c.length=L.length) (hn:L.length≤100) (h0: ¬M 1) (BX:∃e fr,w0.heap[1]? =some (.cells (Fj.map fun(k:Nat)=>Value.int .u8 (k:Int)).toArray e fr)):
  Spec Tryz.prog 22 #[v0,v1] w0 (fun v w=>∃s e,v= .tuple #[s,.int .i64 e]∧((e=0∧∃os E,Mg [(L,a),(L,c)] os E)∨(e=5∧wO [(L,a),(L,c)]))∧Step M w0 M w aD):=by
 have hk:=A6 hok;refine(zo (g:=[(L,a),(L,c)]) (bs:=[b,b']) hM hs hb (lv.cons dr (lv.one aaB)) (fun p hp=>?_) (by simp) (fun p hp=>?_) (fun p hp=>?_) h0 BX).mono fun v w ⟨s,h⟩=>?_
 ·simp only[bX,dJ,or_false]at hp;rcases hp with rfl|rfl
  ·exact⟨hok,ha⟩
  ·exact⟨hok,hc⟩
 ·simp only[bX,dJ,or_false]at hp;rcases hp with rfl|rfl<;>(show L.length≤_;omega)
 ·simp only[bX,dJ,or_false]at hp;rcases hp with rfl|rfl<;>(show(keysOf L).length≤_;omega)
 ·rcases h with⟨os,E,CP,sg,rfl,_⟩|⟨ht,rfl⟩
  ·exact⟨_,_,rfl,.inl ⟨rfl,os,E,CP⟩,s⟩
  ·exact⟨_,_,rfl,.inr ⟨rfl,ht⟩,s⟩
theorem EN {M:aC} {L:List En} {n b:Nat} {v0 v1:Value} {w0:World} (hM:Lt M w0) (hs:(((RT.se).ptr).sl).V M w0 [pO (fg L)] v0) (hb:(RT.CS.sl).V M w0 [b] v1) (dr:uu M w0 (List.replicate n true) b) (hok:tv (-1) L=true) (hn:L.length≤100) (h0: ¬M 1) (BX:∃e fr,w0.heap[1]? =some (.cells (Fj.map fun(k:Nat)=>Value.int .u8 (k:Int)).toArray e fr)):
  Spec Tryz.prog 22 #[v0,v1] w0 (fun v w=>∃s,v= .tuple #[s,.int .i64 (if n=L.length then 0 else 1)]∧Step M w0 M w aD):=by
 by_cases h:n=L.length
 ·subst h;exact(EJ hM hs hb dr hok (bM ..) hn h0 BX).mono fun v w ⟨s,h1,_,h2⟩=>⟨s,by rw[if_pos rfl];exact h1,h2⟩
 ·refine(lW ((zd (ns:=[n]) w0 hs hb rfl rfl (fun i b' m h1 h2=>?_)).mono fun v w ⟨h1,h2⟩=>⟨?_,h2⟩)).mono fun v w ⟨h1,h2⟩=>⟨_,by rw[if_neg h];exact h1,by subst h2;exact ax _ _⟩
  ·cases i with
   |zero=>
    simp only[dW,cH]at h1 h2;subst h1;subst h2;obtain⟨ws,h3,_⟩:=dr;rw[bM]at h3;exact⟨ws,h3⟩
   |succ i=>simp at h1
  ·rw[h1]
   exact congrArg Value.bool (decide_eq_false fun e=>h (by
    have e1:((L.map fun e=>e.1.1).length::([]:List Nat))=[n]:=e;rw[aI]at e1;exact(List.cons.inj e1).1.symm))
end Go.K
namespace Go.K
open Go.Proofs
namespace TKRefuses11
theorem Cr:TI Tryz.prog 25 (.pointer none) 1 8:=by unfold TI;kernel_rfl
theorem Jg:TI Tryz.prog 47 (.pointer none) 1 8:=by unfold TI;kernel_rfl
theorem E11:Enters Tryz.prog 11:=enters Tryz.func11 rfl (by decide)
theorem E12:Enters Tryz.prog 12:=enters Tryz.func12 rfl (by decide)
theorem VM:Enters Tryz.prog 22:=enters Tryz.func22 rfl (by decide)
theorem Wo:Enters Tryz.prog 23:=enters Tryz.func23 rfl (by decide)
theorem ZB:Enters Tryz.prog 24:=enters Tryz.func24 rfl (by decide)
theorem E25:Enters Tryz.prog 25:=enters Tryz.func25 rfl (by decide)
end TKRefuses11
open TKRefuses11
set_option maxRecDepth 10000
theorem uH {M:aC} {l:List Dc} {a:Int} {v0:Value} {w0:World} (hM:Lt M w0) (hv:(RT.dc.sl).V M w0 l v0) (ha: -9223372036854775808≤a∧a≤9223372036854775807) (h0: ¬M 1) (BX:∃e fr,w0.heap[1]? =some (.cells (Fj.map fun(k:Nat)=>Value.int .u8 (k:Int)).toArray e fr)):
  Spec Tryz.prog 4 #[v0,.int .i64 a] w0 (fun v w=>v= .bool true∧Step M w0 M w aD):=by
 have lC:=hM;obtain⟨Z3,Z4,Qd⟩:=BX;have hgl:=l0 l 0 1 5;obtain⟨hok,_⟩:=D9 l (show(0:Int)≤0 by decide) (show(1:Int)≤1 by decide) 5;refine bc (args:=[_,_]) (fn:=Tryz.f4) Tryz.func4 rfl (n:=129) Tryz.ntmps4 ?_;have S:Step M w0 M w0 aD:=(ax _ _).cG (fun _ h=>h.elim) (fun _ h=>h.elim);refine aj (ae (ah rfl rfl (ab (aj (ae (ad rfl rfl ?_))))));refine aX rfl rfl E12 (FI (most:=5) (a:=0) (s:=1) _ hM hv (by decide) (by decide) (by decide)) (fun r1 w1 hc=>?_);obtain⟨hg,s1⟩:=hc;replace hv:=hv.le s1.le;replace hM:=s1.lt hM;have:=S.size;replace S:=S.aB s1;refine ah rfl rfl (ab (aj (ae (ad rfl rfl ?_))));refine aX rfl rfl E11 (Gr _ hM hg Gu (by omega) hok) (fun rb2 wb2 hc=>?_);obtain⟨sa2,rfl,jG,Wb⟩:=hc;obtain⟨aa2,rfl⟩:=jG.iC;replace hg:=hg.le Wb.le;replace hM:=Wb.lt hM;have:=S.size;replace S:=S.aB Wb;refine ad rfl rfl (bK rfl rfl rfl (bK rfl rfl rfl (ah rfl rfl (ah rfl rfl (ab (aj (aj (ae (ad rfl rfl (Rg.CN fu rfl rfl rfl (ab ?_)))))))))));refine T.tx rfl ((by simp)) (aT ?_);refine T.tG [(0,v0),(1,.int .i64 (if a<0 then-(a+1)else a)),(5,r1),(6,.pointer (some aa2))] ?_ ?_
 ·refine aj (ae (ad rfl rfl (cf rfl rfl rfl (ab ?_))));refine bP rfl (fun c5=>?_) (fun c5=>?_)
  ·refine ae (ad rfl rfl (bD rfl rfl rfl (by omega) (Rg.neg rfl rfl (by omega) (ah rfl rfl (ab ?_)))));exact⟨rfl,rfl,rfl,.cons rfl (.cons (by first|exact congrArg (fun z=>some (Value.int .i64 z)) (if_pos c5).symm|exact congrArg (fun z=>some (Value.int .i64 z)) (if_neg c5).symm) (.cons rfl (.cons rfl (.nil))))⟩
  ·refine aT ?_;exact⟨rfl,rfl,rfl,.cons rfl (.cons (by first|exact congrArg (fun z=>some (Value.int .i64 z)) (if_pos c5).symm|exact congrArg (fun z=>some (Value.int .i64 z)) (if_neg c5).symm) (.cons rfl (.cons rfl (.nil))))⟩
 ·refine aj (ae (ad rfl rfl ?_));obtain⟨n2,hn2,arO⟩:∃n2:Nat,(if a<0 then-(a+1)else a)=(n2:Int)∧n2≤9223372036854775807:=⟨(if a<0 then-(a+1)else a).toNat,by split<;>omega,by split<;>omega⟩;rw[hn2];refine Rg.zF rfl rfl rfl (by omega) ?_;obtain⟨n,hm,Q9⟩:∃n:Nat,(n2:Int)%9=(n:Int)∧n<9:=⟨n2%9,by omega,by omega⟩;rw[hm];refine ah rfl rfl (ab (aj (ae (ad rfl rfl ?_))));refine dQ (A:=((RT.se).ptr)) (hn:=by decide) (M:=M) cA Cr (by decide) rfl rfl hM (j0.2 jG) (.inr ⟨rfl,rfl⟩) (fun arP arQ eZ Qp=>?_);replace hg:=hg.le Qp.le;replace jG:=jG.le (by decide) Qp.le;replace hM:=Qp.lt hM;have:=S.size;replace S:=S.aB Qp;refine aX rfl rfl VM (lW (EK (M:=M) (bs:=[]) _ eZ nR (by simp))) (fun r82 w82 hc=>?_);obtain⟨rfl,e82⟩:=hc;obtain rfl:=e82.symm;refine ad rfl rfl (bK rfl rfl rfl (bK rfl rfl rfl (ah rfl rfl (ah rfl rfl (ab (aj (ae (ad rfl rfl ?_))))))));refine dQ (A:=((RT.se).ptr)) (hn:=by decide) (M:=M) cA Cr (by decide) rfl rfl hM (j0.2 jG) (.inr ⟨rfl,rfl⟩) (fun Yk arS eL NT=>?_);replace hg:=hg.le NT.le;replace jG:=jG.le (by decide) NT.le;replace eZ:=eZ.le NT.le;replace hM:=NT.lt hM;have:=S.size;replace S:=S.aB NT;refine ad rfl rfl ?_;refine aX rfl rfl Wo (mO hM (n:=n) (by omega)) (fun r93 w93 hc=>?_);obtain⟨aiv,rfl,iZ,Wp⟩:=hc;replace hg:=hg.le Wp.le;replace jG:=jG.le (by decide) Wp.le;replace eZ:=eZ.le Wp.le;replace eL:=eL.le Wp.le;replace hM:=Wp.lt hM;have:=S.size;replace S:=S.aB Wp;refine dQ (A:=RT.CS) (hn:=by decide) (M:=M) fv Jg (by decide) rfl rfl hM (tM.2 rfl) (.inr ⟨rfl,rfl⟩) (fun SN Xk fh pT=>?_);replace hg:=hg.le pT.le;replace jG:=jG.le (by decide) pT.le;replace eZ:=eZ.le pT.le;replace eL:=eL.le pT.le;replace iZ:=iZ.le pT.le;replace hM:=pT.lt hM;have:=S.size
  replace S:=S.aB pT;refine aX rfl rfl VM (EN (L:=(fj l 0 1 5)) (b:=aiv) hM eL fh iZ hok (by omega) (fun hn=>h0 ((S.mem 1 (ak Qd)).1 hn)) ⟨Z3,Z4,S.aK Qd⟩) (fun r95 w95 hc=>?_);obtain⟨arT,rfl,RX⟩:=hc;replace hg:=hg.le RX.le;replace jG:=jG.le (by decide) RX.le;replace eZ:=eZ.le RX.le;replace eL:=eL.le RX.le;replace iZ:=iZ.le RX.le;replace fh:=fh.le RX.le;replace hM:=RX.lt hM;have:=S.size;replace S:=S.aB RX;refine ad rfl rfl (bK rfl rfl rfl (bK rfl rfl rfl (ah rfl rfl (ah rfl rfl (ab (aj (ae ?_)))))));refine dQ (A:=RT.NR) (hn:=by decide) (M:=M) cA Cr (by decide) rfl rfl hM (Ch.2 rfl) (.inr ⟨rfl,rfl⟩) (fun QS al0 eF wV=>?_);replace hg:=hg.le wV.le;replace jG:=jG.le (by decide) wV.le;replace eZ:=eZ.le wV.le;replace eL:=eL.le wV.le;replace iZ:=iZ.le wV.le;replace fh:=fh.le wV.le;replace hM:=wV.lt hM;have:=S.size;replace S:=S.aB wV;refine aX rfl rfl Wo (mO hM (n:=0) (by omega)) (fun arU arV hc=>?_);obtain⟨al1,rfl,ik,Ci⟩:=hc;replace hg:=hg.le Ci.le;replace jG:=jG.le (by decide) Ci.le;replace eZ:=eZ.le Ci.le;replace eL:=eL.le Ci.le;replace iZ:=iZ.le Ci.le;replace fh:=fh.le Ci.le;replace eF:=eF.le Ci.le;replace hM:=Ci.lt hM;have:=S.size;replace S:=S.aB Ci;refine dQ (A:=RT.CS) (hn:=by decide) (M:=M) fv Jg (by decide) rfl rfl hM (tM.2 rfl) (.inr ⟨rfl,rfl⟩) (fun YU YV fk ou=>?_);replace hg:=hg.le ou.le;replace jG:=jG.le (by decide) ou.le;replace eZ:=eZ.le ou.le;replace eL:=eL.le ou.le;replace iZ:=iZ.le ou.le;replace fh:=fh.le ou.le;replace eF:=eF.le ou.le;replace ik:=ik.le ou.le;replace hM:=ou.lt hM;have:=S.size;replace S:=S.aB ou;refine aX rfl rfl VM (lW (EL (M:=M) _ eF fk)) (fun arW arX hc=>?_)
  obtain⟨rfl,rfl⟩:=hc;refine ad rfl rfl (bK rfl rfl rfl (bK rfl rfl rfl (ah rfl rfl (ah rfl rfl (ab (aj (ae (ad rfl rfl ?_))))))));refine dQ (A:=((RT.se).ptr)) (hn:=by decide) (M:=M) cA Cr (by decide) rfl rfl hM (j0.2 jG) (.inr ⟨rfl,rfl⟩) (fun al2 al3 fO qR=>?_);replace hg:=hg.le qR.le;replace jG:=jG.le (by decide) qR.le;replace eZ:=eZ.le qR.le;replace eL:=eL.le qR.le;replace iZ:=iZ.le qR.le;replace fh:=fh.le qR.le;replace eF:=eF.le qR.le;replace ik:=ik.le qR.le;replace fk:=fk.le qR.le;replace hM:=qR.lt hM;have:=S.size;replace S:=S.aB qR;refine dQ (A:=RT.NR) (hn:=by decide) (M:=M) fv Jg (by decide) rfl rfl hM (Ch.2 rfl) (.inr ⟨rfl,rfl⟩) (fun Y3 al4 fN pQ=>?_);replace hg:=hg.le pQ.le;replace jG:=jG.le (by decide) pQ.le;replace eZ:=eZ.le pQ.le;replace eL:=eL.le pQ.le;replace iZ:=iZ.le pQ.le;replace fh:=fh.le pQ.le;replace eF:=eF.le pQ.le;replace ik:=ik.le pQ.le;replace fk:=fk.le pQ.le;replace fO:=fO.le pQ.le;replace hM:=pQ.lt hM;have:=S.size;replace S:=S.aB pQ;refine aX rfl rfl VM (lW (EM (M:=M) _ fO fN)) (fun arY arZ hc=>?_);obtain⟨rfl,rfl⟩:=hc;refine ad rfl rfl (bK rfl rfl rfl (bK rfl rfl rfl (ah rfl rfl (ah rfl rfl (ab (aj (ae (ad rfl rfl (ad rfl rfl ?_)))))))));refine Rg.NX (A:=((RT.se).ptr)) (hn:=by decide) (M:=M) (xs:=[pO (fg (fj l 0 1 5)),pO (fg (fj l 0 1 5))]) cA Cr rfl (by decide) rfl ⟨_,_,_,rfl,rfl,rfl,j0.2 jG,_,_,_,rfl,rfl,rfl,j0.2 jG,rfl⟩ rfl hM (.inr ⟨rfl,rfl⟩) (by decide) (fun ar0 ar1 jJ vT=>?_);replace hg:=hg.le vT.le;replace jG:=jG.le (by decide) vT.le;replace eZ:=eZ.le vT.le;replace eL:=eL.le vT.le
  replace iZ:=iZ.le vT.le;replace fh:=fh.le vT.le;replace eF:=eF.le vT.le;replace ik:=ik.le vT.le;replace fk:=fk.le vT.le;replace fO:=fO.le vT.le;replace fN:=fN.le vT.le;replace hM:=vT.lt hM;have:=S.size;replace S:=S.aB vT;refine ad rfl rfl (bJ ej rfl hg rfl ?_);refine aX rfl rfl Wo (mO hM (n:=(fj l 0 1 5).length) (by omega)) (fun ar2 ar3 hc=>?_);obtain⟨RY,rfl,kA,uI⟩:=hc;replace hg:=hg.le uI.le;replace jG:=jG.le (by decide) uI.le;replace eZ:=eZ.le uI.le;replace eL:=eL.le uI.le;replace iZ:=iZ.le uI.le;replace fh:=fh.le uI.le;replace eF:=eF.le uI.le;replace ik:=ik.le uI.le;replace fk:=fk.le uI.le;replace fO:=fO.le uI.le;replace fN:=fN.le uI.le;replace jJ:=jJ.le uI.le;replace hM:=uI.lt hM;have:=S.size;replace S:=S.aB uI;refine ad rfl rfl (bJ ej rfl hg rfl ?_);refine aX rfl rfl Wo (mO hM (n:=(fj l 0 1 5).length) (by omega)) (fun ar4 ar5 hc=>?_);obtain⟨RZ,rfl,lx,tn⟩:=hc;replace hg:=hg.le tn.le;replace jG:=jG.le (by decide) tn.le;replace eZ:=eZ.le tn.le;replace eL:=eL.le tn.le;replace iZ:=iZ.le tn.le;replace fh:=fh.le tn.le;replace eF:=eF.le tn.le;replace ik:=ik.le tn.le;replace fk:=fk.le tn.le;replace fO:=fO.le tn.le;replace fN:=fN.le tn.le;replace jJ:=jJ.le tn.le;replace kA:=kA.le tn.le;replace hM:=tn.lt hM;have:=S.size;replace S:=S.aB tn;refine Rg.NX (A:=RT.CS) (hn:=by decide) (M:=M) (xs:=[RY,RZ]) fv Jg rfl (by decide) rfl ⟨_,_,_,rfl,rfl,rfl,tM.2 rfl,_,_,_,rfl,rfl,rfl,tM.2 rfl,rfl⟩ rfl hM (.inr ⟨rfl,rfl⟩) (by decide) (fun ar6 ar7 mP rH=>?_);replace hg:=hg.le rH.le;replace jG:=jG.le (by decide) rH.le;replace eZ:=eZ.le rH.le;replace eL:=eL.le rH.le
  replace iZ:=iZ.le rH.le;replace fh:=fh.le rH.le;replace eF:=eF.le rH.le;replace ik:=ik.le rH.le;replace fk:=fk.le rH.le;replace fO:=fO.le rH.le;replace fN:=fN.le rH.le;replace jJ:=jJ.le rH.le;replace kA:=kA.le rH.le;replace lx:=lx.le rH.le;replace hM:=rH.lt hM;have:=S.size;replace S:=S.aB rH;refine aX rfl rfl VM (wU (L:=(fj l 0 1 5)) (b:=RY) (b':=RZ) hM jJ mP kA lx hok (bM ..) (bM ..) (by omega) (fun hn=>h0 ((S.mem 1 (ak Qd)).1 hn)) ⟨Z3,Z4,S.aK Qd⟩) (fun al5 al6 hc=>?_);obtain⟨aiw,VP,rfl,VQ,ly⟩:=hc
  have aix:VP=if(fj l 0 1 5).length=0 then 0 else 5:=by
   rcases VQ with⟨h1,os,E,h2⟩|⟨h1,h2⟩
   ·rw[if_pos (by rw[VO h2];rfl)];exact h1
   ·rw[if_neg (fun h=>by rw[List.eq_nil_of_length_eq_zero h]at h2;exact Qo h2)];exact h1
  subst aix;replace hg:=hg.le ly.le;replace jG:=jG.le (by decide) ly.le;replace eZ:=eZ.le ly.le;replace eL:=eL.le ly.le;replace iZ:=iZ.le ly.le;replace fh:=fh.le ly.le;replace eF:=eF.le ly.le;replace ik:=ik.le ly.le;replace fk:=fk.le ly.le;replace fO:=fO.le ly.le;replace fN:=fN.le ly.le;replace jJ:=jJ.le ly.le;replace kA:=kA.le ly.le;replace lx:=lx.le ly.le;replace mP:=mP.le ly.le;replace hM:=ly.lt hM;have:=S.size;replace S:=S.aB ly;refine ad rfl rfl (bK rfl rfl rfl (bK rfl rfl rfl (ah rfl rfl (ah rfl rfl (ab (aj (ae (ad rfl rfl (ad rfl rfl ?_)))))))));refine Rg.NX (A:=((RT.se).ptr)) (hn:=by decide) (M:=M) (xs:=[pO (fg (fj l 0 1 5)),pO (fg (fj l 0 1 5))]) cA Cr rfl (by decide) rfl ⟨_,_,_,rfl,rfl,rfl,j0.2 jG,_,_,_,rfl,rfl,rfl,j0.2 jG,rfl⟩ rfl hM (.inr ⟨rfl,rfl⟩) (by decide) (fun ar8 ar9 qS qT=>?_);replace hg:=hg.le qT.le;replace jG:=jG.le (by decide) qT.le;replace eZ:=eZ.le qT.le;replace eL:=eL.le qT.le;replace iZ:=iZ.le qT.le;replace fh:=fh.le qT.le;replace eF:=eF.le qT.le;replace ik:=ik.le qT.le;replace fk:=fk.le qT.le;replace fO:=fO.le qT.le;replace fN:=fN.le qT.le;replace jJ:=jJ.le qT.le;replace kA:=kA.le qT.le;replace lx:=lx.le qT.le;replace mP:=mP.le qT.le;replace hM:=qT.lt hM;have:=S.size;replace S:=S.aB qT;refine ad rfl rfl (bJ ej rfl hg rfl ?_);refine aX rfl rfl Wo (mO hM (n:=(fj l 0 1 5).length) (by omega)) (fun asa asb hc=>?_);obtain⟨R0,rfl,uJ,qa⟩:=hc;replace hg:=hg.le qa.le;replace jG:=jG.le (by decide) qa.le;replace eZ:=eZ.le qa.le;replace eL:=eL.le qa.le;replace iZ:=iZ.le qa.le;replace fh:=fh.le qa.le;replace eF:=eF.le qa.le
  replace ik:=ik.le qa.le;replace fk:=fk.le qa.le;replace fO:=fO.le qa.le;replace fN:=fN.le qa.le;replace jJ:=jJ.le qa.le;replace kA:=kA.le qa.le;replace lx:=lx.le qa.le;replace mP:=mP.le qa.le;replace qS:=qS.le qa.le;replace hM:=qa.lt hM;have:=S.size;replace S:=S.aB qa;refine ad rfl rfl (bJ ej rfl hg rfl ?_);refine aX rfl rfl ZB (Jt hM (n:=(fj l 0 1 5).length) (by omega)) (fun asc asd hc=>?_);obtain⟨R1,rfl,zr,pz⟩:=hc;replace hg:=hg.le pz.le;replace jG:=jG.le (by decide) pz.le;replace eZ:=eZ.le pz.le;replace eL:=eL.le pz.le;replace iZ:=iZ.le pz.le;replace fh:=fh.le pz.le;replace eF:=eF.le pz.le;replace ik:=ik.le pz.le;replace fk:=fk.le pz.le;replace fO:=fO.le pz.le;replace fN:=fN.le pz.le;replace jJ:=jJ.le pz.le;replace kA:=kA.le pz.le;replace lx:=lx.le pz.le;replace mP:=mP.le pz.le;replace qS:=qS.le pz.le;replace uJ:=uJ.le pz.le;replace hM:=pz.lt hM;have:=S.size;replace S:=S.aB pz;refine Rg.NX (A:=RT.CS) (hn:=by decide) (M:=M) (xs:=[R0,R1]) fv Jg rfl (by decide) rfl ⟨_,_,_,rfl,rfl,rfl,tM.2 rfl,_,_,_,rfl,rfl,rfl,tM.2 rfl,rfl⟩ rfl hM (.inr ⟨rfl,rfl⟩) (by decide) (fun ase asf EO oD=>?_);replace hg:=hg.le oD.le;replace jG:=jG.le (by decide) oD.le;replace eZ:=eZ.le oD.le;replace eL:=eL.le oD.le;replace iZ:=iZ.le oD.le;replace fh:=fh.le oD.le;replace eF:=eF.le oD.le;replace ik:=ik.le oD.le;replace fk:=fk.le oD.le;replace fO:=fO.le oD.le;replace fN:=fN.le oD.le;replace jJ:=jJ.le oD.le;replace kA:=kA.le oD.le;replace lx:=lx.le oD.le;replace mP:=mP.le oD.le;replace qS:=qS.le oD.le;replace uJ:=uJ.le oD.le;replace zr:=zr.le oD.le
  replace hM:=oD.lt hM;have:=S.size;replace S:=S.aB oD;refine aX rfl rfl VM (wU (L:=(fj l 0 1 5)) (b:=R0) (b':=R1) hM qS EO uJ zr hok (bM ..) (bM ..) (by omega) (fun hn=>h0 ((S.mem 1 (ak Qd)).1 hn)) ⟨Z3,Z4,S.aK Qd⟩) (fun al7 al8 hc=>?_);obtain⟨aiy,VR,rfl,VS,jK⟩:=hc
  obtain rfl:VR=0:=by
   rcases VS with⟨h1,_⟩|⟨h1,h2⟩
   ·exact h1
   ·exact absurd h2 (VN (y4 hok))
  replace hg:=hg.le jK.le;replace jG:=jG.le (by decide) jK.le;replace eZ:=eZ.le jK.le;replace eL:=eL.le jK.le;replace iZ:=iZ.le jK.le;replace fh:=fh.le jK.le;replace eF:=eF.le jK.le;replace ik:=ik.le jK.le;replace fk:=fk.le jK.le;replace fO:=fO.le jK.le;replace fN:=fN.le jK.le;replace jJ:=jJ.le jK.le;replace kA:=kA.le jK.le;replace lx:=lx.le jK.le;replace mP:=mP.le jK.le;replace qS:=qS.le jK.le;replace uJ:=uJ.le jK.le;replace zr:=zr.le jK.le;replace EO:=EO.le jK.le;replace hM:=jK.lt hM;have:=S.size;replace S:=S.aB jK;refine ad rfl rfl (bK rfl rfl rfl (bK rfl rfl rfl (ah rfl rfl (ah rfl rfl (ab (aj (ae (ah rfl rfl (ab ?_)))))))));refine T.tG [(5,r1),(9,.int .i64 1),(11,.int .i64 (if n=(fj l 0 1 5).length then 0 else 1)),(13,.int .i64 1),(15,.int .i64 1),(17,.int .i64 (if(fj l 0 1 5).length=0 then 0 else 5)),(19,.int .i64 0),(20,.int .i64 (if n=(fj l 0 1 5).length then 0 else 1))] ?_ ?_
  ·refine aj (ae (ad rfl rfl (ad rfl rfl (bJ ej rfl hg rfl (k7 rfl rfl rfl (ab ?_))))));refine bP rfl (fun OQ=>?_) (fun OQ=>?_)
   ·refine ae (ah rfl rfl (ab ?_));exact⟨rfl,rfl,rfl,.cons rfl (.cons rfl (.cons rfl (.cons rfl (.cons rfl (.cons rfl (.cons rfl (.cons (by first|exact congrArg (fun z=>some (Value.int .i64 z)) (if_pos (by omega)).symm|exact congrArg (fun z=>some (Value.int .i64 z)) (if_neg (by omega)).symm) (.nil))))))))⟩
   ·refine aT ?_;exact⟨rfl,rfl,rfl,.cons rfl (.cons rfl (.cons rfl (.cons rfl (.cons rfl (.cons rfl (.cons rfl (.cons (by first|exact congrArg (fun z=>some (Value.int .i64 z)) (if_pos (by omega)).symm|exact congrArg (fun z=>some (Value.int .i64 z)) (if_neg (by omega)).symm) (.nil))))))))⟩
  ·refine aj (ae (ah rfl rfl (ab ?_)));refine T.tG [(9,.int .i64 1),(11,.int .i64 (if n=(fj l 0 1 5).length then 0 else 1)),(13,.int .i64 1),(15,.int .i64 1),(17,.int .i64 (if(fj l 0 1 5).length=0 then 0 else 5)),(19,.int .i64 0),(20,.int .i64 (if n=(fj l 0 1 5).length then 0 else 1)),(21,.int .i64 (if(fj l 0 1 5).length=0 then 0 else 5))] ?_ ?_
   ·refine aj (ae (ad rfl rfl (bJ ej rfl hg rfl (k7 rfl rfl rfl (ab ?_)))));refine bP rfl (fun Wn=>?_) (fun Wn=>?_)
    ·refine ae (ah rfl rfl (ab ?_));exact⟨rfl,rfl,rfl,.cons rfl (.cons rfl (.cons rfl (.cons rfl (.cons rfl (.cons rfl (.cons rfl (.cons (by first|exact congrArg (fun z=>some (Value.int .i64 z)) (if_pos (by omega)).symm|exact congrArg (fun z=>some (Value.int .i64 z)) (if_neg (by omega)).symm) (.nil))))))))⟩
    ·refine aT ?_;exact⟨rfl,rfl,rfl,.cons rfl (.cons rfl (.cons rfl (.cons rfl (.cons rfl (.cons rfl (.cons rfl (.cons (by first|exact congrArg (fun z=>some (Value.int .i64 z)) (if_pos (by omega)).symm|exact congrArg (fun z=>some (Value.int .i64 z)) (if_neg (by omega)).symm) (.nil))))))))⟩
   ·refine aj (ae (ad rfl rfl (k7 rfl rfl rfl (aV (v':= .bool true) (by simp) (ad rfl rfl (al rfl rfl (ad rfl rfl (al rfl rfl (ad rfl rfl (al rfl rfl (k7 rfl rfl rfl ?_)))))))))));refine aV (v':= .bool true) (by simp) (aW rfl rfl rfl (ad rfl rfl (al rfl rfl (ad rfl rfl (al rfl rfl (k7 rfl rfl rfl (aV (v':= .bool true) (by simp) (aW rfl rfl rfl (ad rfl rfl (al rfl rfl (ad rfl rfl ?_)))))))))));refine al rfl rfl (k7 rfl rfl rfl (aV (v':= .bool true) (by simp) (aW rfl rfl rfl (ad rfl rfl (al rfl rfl (ad rfl rfl (al rfl rfl (ad rfl rfl (al rfl rfl (k7 rfl rfl rfl (aV (v':= .bool true) (by simp) ?_)))))))))));refine aW rfl rfl rfl (ad rfl rfl (al rfl rfl (ad rfl rfl (al rfl rfl (k7 rfl rfl rfl (aV (v':= .bool true) (by simp) (aW rfl rfl rfl (ad rfl rfl (al rfl rfl ?_)))))))));refine aX rfl rfl E25 (Cg hM) (fun rl wl hc=>?_);obtain⟨rfl,sl⟩:=hc;replace hg:=hg.le sl.le;replace jG:=jG.le (by decide) sl.le;replace eZ:=eZ.le sl.le;replace eL:=eL.le sl.le;replace iZ:=iZ.le sl.le;replace fh:=fh.le sl.le;replace eF:=eF.le sl.le;replace ik:=ik.le sl.le;replace fk:=fk.le sl.le;replace fO:=fO.le sl.le;replace fN:=fN.le sl.le;replace jJ:=jJ.le sl.le;replace kA:=kA.le sl.le;replace lx:=lx.le sl.le;replace mP:=mP.le sl.le;replace qS:=qS.le sl.le;replace uJ:=uJ.le sl.le;replace zr:=zr.le sl.le;replace EO:=EO.le sl.le;replace hM:=sl.lt hM;have:=S.size;replace S:=S.aB sl;refine aW rfl rfl rfl (ah rfl rfl (ab (aN ?_)));exact aU rfl rfl ⟨rfl,S.back⟩
end Go.K

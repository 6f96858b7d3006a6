/- What the law 'MergeMerges' needs of walks and plain Lean, part 6: nothing is assumed beyond the texts that it imports. -/
import Derived.KernelRfl
import Derived.Test.YtbobcaffmbaadaaGreatDoorProg
import Derived.Test.YtbobcaffmbaadaaGreatDoorZMergeMerges1
import Derived.Test.YtbobcaffmbaadaaGreatDoorZMergeMerges2
import Derived.Test.YtbobcaffmbaadaaGreatDoorZMergeMerges3
import Derived.Test.YtbobcaffmbaadaaGreatDoorZMergeMerges4
import Derived.Test.YtbobcaffmbaadaaGreatDoorZMergeMerges5
set_option linter.unusedVariables false
set_option linter.unusedSimpArgs false
namespace Go.K
open Go.Proofs
namespace TKPutA
theorem Td:Enters Tryz.prog 120:=enters Tryz.func120 rfl q0
end TKPutA
open TKPutA
set_option maxRecDepth 10000
theorem yX {α:Type} [DecidableEq α] {key:α->List UInt8} {t:α}:∀{l:List α} {i:Nat},yG key l->l[i]? =some t->k7 key t l=l
 |[],_,_,h=>by simp at h
 |u::l,0,h,hi=>by
  simp at hi;subst hi;rw[k7,if_neg (jw _),if_pos rfl]
 |u::l,i+1,h,hi=>by
  obtain⟨h1,h2⟩:=eV.1 h;have jC:l[i]? =some t:=by simpa using hi
  have eK:=h1 t (au jC);rw[k7,if_neg (jx eK),if_neg (λe=>by subst e;exact jw _ eK),yX h2 jC]
theorem kN {α:Type} [DecidableEq α] {key:α->List UInt8} {t:α}:∀{l:List α} {k:Nat},(∀x∈l.drop k,key t<key x)->(∀x∈l.take k,¬key t<key x/\x≠t)->k7 key t l=l.take k++t::l.drop k
 |[],_,_,_=>by simp[k7]
 |u::l,0,h,_=>by rw[k7,if_pos (h u (bZ ..))];rfl
 |u::l,k+1,h,h'=>by
  obtain⟨h1,h2⟩:=h' u (by simp);rw[k7,if_neg h1,if_neg h2,kN (k:=k) (λx hx=>h x a65) (λx hx=>h' x (by simp[hx]))];simp
theorem uL {α:Type} {key:α->List UInt8} {t y:α} {l:List α} {k:Nat} (h:yG key l) (hk:k≠0) (hy:l[k-1]? =some y) (h1: ¬key t<key y) (h2:y≠t):∀x∈l.take k,¬key t<key x/\x≠t:=λx hx=>by
 obtain⟨i,hi,rfl⟩:=l0.1 hx;rw[List.getElem_take];rw[aU]at hi;obtain⟨hy1,rfl⟩:=aj.1 hy;rcases cQ i (k-1)with eK|kR
 ·have:=cJ.1 h i (k-1) k3 hy1 eK;exact⟨λhh=>h1 (lS hh this),λe=>h1 (e▸this)⟩
 ·have e:i=k-1:=by omega
  subst e;exact⟨h1,h2⟩
theorem Tf {l:List Fd} (h:∀t∈l,NT t/\t.1.length<=12/\t.2.length<=30):yG fv (allBy fv l)/\(∀t∈allBy fv l,t.1.length<=1000000/\t.2.length<=1000000)/\(allBy fv l).length<=l.length:=by
 have h1:=rD (key:=fv) (S:=NT) (λa b=>xC) l [] (λx hx=>(h x hx).1) (λx hx=>by cases hx) List.Pairwise.nil
 have hm:∀t∈allBy fv l,t∈l:=λt ht=>by
  have:=(h1.2 t).1 ht;simpa using this
 refine⟨h1.1,λt ht=>?_,h1.1.nodup.length_le_of_subset hm⟩;have:=h t (hm t ht);omega
def qC (fs:List Fd) (x:Fd) (k:Nat):List Fd:=(cD fs).map (·.1)++((words x.2).take k).map λy=>(x.1,y)
theorem D9 (x:Fd):(jv x).map (·.1)=(words x.2).map λy=>(x.1,y):=by
 unfold jv;rw[p9];show(words x.2).zipIdx.map ((λy=>(x.1,y))∘Prod.fst)=_;rw[<-p9,List.zipIdx_map_fst]
theorem Ea {fs:List Fd} {x:Fd} {i:Nat} (h:fs[i]? =some x):qC (fs.take i) x (words x.2).length=(cD (fs.take (i+1))).map (·.1):=by
 unfold qC;rw[bB,h,bU,mB];unfold cD;rw[List.flatMap_append,cG,<-D9];simp
theorem Eb {fs:List Fd} {x:Fd} {k:Nat} {y:List UInt8} (h:(words x.2)[k]? =some y):qC fs x (k+1)=qC fs x k++[(x.1,y)]:=by
 unfold qC;rw[bB,h,bU,cG,eR];rfl
theorem MC {d:Dc} (hf:ky d) {i:Nat} {x:Fd} (h:d.2[i]? =some x) (k:Nat):(∀t∈qC (d.2.take i) x k,NT t/\t.1.length<=12/\t.2.length<=30)/\(qC (d.2.take i) x k).length<=500:=by
 have MZ:∀t∈qC (d.2.take i) x k,∃p∈cD d.2,p.1=t:=λt ht=>by
  rcases cP.1 ht with ht|ht
  ·obtain⟨p,hp,rfl⟩:=ck.1 ht;obtain⟨z,hz,hp⟩:=kV.1 hp;exact⟨p,kV.2 ⟨z,lV hz,hp⟩,G⟩
  ·obtain⟨y,hy,rfl⟩:=ck.1 ht;have hx:(x.1,y)∈(jv x).map (·.1):=by rw[D9];exact ck.2 ⟨y,lV hy,G⟩
   obtain⟨p,hp,e⟩:=ck.1 hx;exact⟨p,kV.2 ⟨x,au h,hp⟩,e⟩
 refine⟨λt ht=>?_,?_⟩
 ·obtain⟨p,hp,rfl⟩:=MZ t ht;exact⟨hf.NW p hp,hf.small p hp⟩
 ·have h1:(qC (d.2.take i) x k).length<=(qC (d.2.take i) x (words x.2).length).length:=by unfold qC;simp;omega
  rw[Ea h,ay]at h1
  have h2:(cD (d.2.take (i+1))).length<=(cD d.2).length:=by
   have e:cD d.2=cD (d.2.take (i+1))++cD (d.2.drop (i+1)):=by unfold cD;rw[<-List.flatMap_append,lj]
   rw[e,aY];omega
  have:=hf.many;omega
theorem OC {d:Dc} (hf:ky d) {i:Nat} {x:Fd} (h:d.2[i]? =some x):iz d.2 x.1=words x.2:=
 tX h rfl λj y hj hy e=>by
  obtain⟨h1,h2⟩:=aj.1 h;obtain⟨h3,h4⟩:=aj.1 hy;have:=cJ.1 hf.once j i (by simpa using h3) an9 hj;rw[List.getElem_map,List.getElem_map,h2,h4]at this;exact this e
theorem Tg {fs:List Fd} (h:(fs.map (·.1)).Nodup) (t:Fd):C4 (iz fs t.1) t.2=posOf (cD fs) t:=by
 induction fs with
 |nil=>rfl
 |cons x fs ih=>
  have h':=AD.1 h;have e:posOf (cD (x::fs)) t=posOf (jv x) t++posOf (cD fs) t:=by show posOf (jv x++cD fs) t=_;rw[rE]
  by_cases hx:x.1=t.1
  ·rw[e,yH λy hy e=>h'.1 (by have h9:y.1∈fs.map (·.1):=gU hy;rw[e,<-hx]at h9;exact h9),eJ];rw[tX (i:=0) (x:=x) rfl hx (λj y hj=>absurd hj (tc _))];unfold C4 posOf jv;rw[List.filter_map,p9];congr 1;refine List.filter_congr λp _=> ?_
   show decide (p.1=t.2)=decide ((x.1,p.1)=t);refine decide_eq_decide.2 ⟨λe=>?_,λe=>?_⟩
   ·rw[hx,e]
   ·rw[<-e]
  ·rw[e,wJ hx,ew,<-ih h'.2];congr 1;unfold iz;rw[List.find?_cons_of_neg a65]
theorem Fm {M:aJ} {l:List Fd} {t:Fd} {v0 v1:Value} (w0:World) (hM:Lt M w0) (hv:(RT.fd.sl).V M w0 l v0) (ht:RT.fd.V M w0 t v1) (oc:yG fv l) (hlen:∀x∈l,x.1.length<=1000000/\x.2.length<=1000000) (Ga:t.1.length<=1000000/\t.2.length<=1000000) (hl:l.length<=1000000):
  Spec Tryz.prog 177 #[v0,v1] w0 (λv w=>(RT.fd.sl).V M w (k7 fv t l) v/\Step M w0 M w aA):=by
 have ir:=hM;refine bF (args:=[_,_]) (fn:=Tryz.f177) Tryz.func177 G (n:=50) Tryz.ntmps177 ?_;have S:Step M w0 M w0 aA:=bz;refine T.aQ ?_;refine kB (A:=RT.fd) (a:=t) G G hM ht G (λu3 w1 kA s0 _=>?_);replace hv:=hv.le s0.le;replace ht:=ht.le s0.le;replace hM:=s0.lt hM;have:=S.size;replace S:=S.aw s0;refine Rg.bA G G (T.aQ (ab G G (bK cg G hv G (Rg.bA G G (aI (aS ?_))))));refine dg (σ:=Nat) (λk=>[(0,v0),(3,u3),(5,.int .i64 (k:Int))]) (λk w=>Step M w0 M w aA/\(RT.fd.sl).V M w l v0/\dv RT.fd M w u3 t/\k<=l.length/\∀x∈l.drop k,fv t<fv x) (λk=>k) l.length a06 ?_ ?_
 ·exact⟨S,hv,kA,aN _,λx h=>by simp at h⟩
 ·clear S hv kA hM;rintro k w ⟨S,hv,kA,hk,Sb⟩;have hM:=S.lt ir;refine aI (aI ?_);apply T.Gc [0,1,2,3,5,6,7,8,9,4,10,11,12] 9 [4,5,6,7,8] 1 aA mixed
  ·simp+decide only[zY,tx,fe,je,gV,gX,fg,dA,gI,lN,cond_true,cond_false,Nat.reduceBEq,Nat.reduceAdd,beq_self_eq_true];rfl
  ·rfl
  ·rfl
  ·rfl
  ·rfl
  ·rfl
  ·rfl
  intro wD2 sA2;have FT:=sA2 M;replace hv:=hv.le FT.le;replace kA:=kA.le q0 FT.le;replace hM:=FT.lt hM;have:=S.size;replace S:=S.aw FT;refine ab G G (Rg.bL (iX G G G (Rg.bL (ab G G (Rg.bL ?_)))));refine aW (g:=11) G (λaq3=>?_) (λaq3=>?_)
  ·refine ak G G ?_;refine cW (A:=RT.fd) cw G mT q0 G G G kA bY (λv23 Ti=>?_);refine Rg.bL (ak G G (ab G G (Rg.bL (ak G G (ab G G (Rg.bL (ak G G (fQ G G G k3 (Rg.bL (ak G G ?_))))))))));obtain⟨x,kR⟩:∃x,l[k-1]? =some x:=⟨_,al k3⟩;have qb:=hlen _ (au kR);refine bX cg mT G G G hv bY k3 (λu28 x_ eo Tj=>?_);rw[show((k:Int)-1).toNat=k-1 from by omega]at eo;obtain rfl:=ar (kR.symm.trans eo);refine Rg.bL (ak G G ?_);refine cW (A:=RT.fd) cw G mT q0 G G G Tj bY (λv29 aq4=>?_);refine Rg.bL (dD ?_)
   try (obtain⟨bb,oo,cs,ee,fr,rfl,lx,_⟩:=Tj.float)
   refine ⟨eQ ⟨ey,⟨ey,⟨(by first|exact bO.ahJ rfl|exact bO.bin rfl rfl),⟨bO.idx,⟨(by first|exact dQ rfl lx (λh=>h)|exact bO.YF rfl),trivial⟩⟩⟩⟩⟩,?_⟩;have kp:=fq aA wD2;refine ak G G ?_;obtain rfl:v23=kv t:=mF Ti;refine a8 G G Td (uF (t:=t) _ hM k3 k3) (λr24 awI hc=>?_);obtain⟨rfl,s24⟩:=hc;replace hv:=hv.le s24.le;replace kA:=kA.le q0 s24.le;replace hM:=s24.lt hM;have:=S.size;replace S:=S.aw s24;refine(fun(kp:eB _ _ _)=>ad ⟨G,G,λ_=>kp,?_⟩) a00;refine ak G G ?_;obtain rfl:v29=kv x:=mF aq4;refine a8 G G Td (uF (t:=x) _ hM k3 k3) (λaCo aq5 hc=>?_);obtain⟨rfl,Ws⟩:=hc;replace hv:=hv.le Ws.le;replace kA:=kA.le q0 Ws.le;replace hM:=Ws.lt hM;have:=S.size;replace S:=S.aw Ws;refine ad ⟨G,G,λh=>absurd G h,ak G G (Rg.aas G G G (ad ⟨G,G,λh=>absurd G h,bm G G G (ad ⟨G,G,λh=>absurd G h,iu ?_⟩)⟩))⟩;refine bM G (λc2=>?_) (λc2=>?_)
   ·refine aR (aS (aH (ab G G (fQ G G G k3 (Rg.bA G G ?_)))));refine⟨G,k-1,(.cons G (.cons G (.cons (congrArg (λz=>some (Value.int .i64 z)) k3) .nil))),?_,?_⟩
    ·exact⟨S,hv,kA,by omega,λz hz=>by
      rw[show l.drop (k-1)=x::l.drop k from by rw[dV k3,(aj.1 kR).2,show k-1+1=k from by omega]]at hz;rcases cR.1 hz with rfl|hz
      ·exact c2
      ·exact Sb z hz⟩
    ·omega
   ·refine cO (aI (aI ?_));apply jU mixed rfl rfl;intro XY VH;have sN:=VH M;replace hv:=hv.le sN.le;replace kA:=kA.le q0 sN.le;replace hM:=sN.lt hM;have:=S.size;replace S:=S.aw sN;refine ab G G (Rg.bL (iX G G G (Rg.bL (ab G G (Rg.bL ?_)))));refine aW (g:=26) G (λkM=>?_) (λkM=>?_)
    ·refine ak G G (ab G G (Rg.bL (ak G G (ab G G (Rg.bL (ak G G (fQ G G G k3 (Rg.bL (ak G G ?_)))))))));refine bX cg mT G G G hv bY k3 (λu46 x_ eo aq6=>?_);rw[show((k:Int)-1).toNat=k-1 from by omega]at eo;obtain rfl:=ar (kR.symm.trans eo);refine Rg.bL (ak G G ?_);refine cW (A:=RT.fd) cw G mT q0 G G G aq6 bY (λv47 aq7=>?_);obtain rfl:v47=kv x:=mF aq7;refine Rg.bL (ak G G ?_);refine cW (A:=RT.fd) cw G mT q0 G G G kA bY (λv48 aq8=>?_);obtain rfl:v48=kv t:=mF aq8;refine Rg.bL (ak G G (Rg.aq2 (p:=x) (q:=t) cw a92 a92 q0 q0 G G aG aG G G G (Rg.bL (bm G G G (Rg.bL (dD ?_))))));refine bM G (λc4=>?_) (λc4=>?_)
     ·refine T.aQ (ab G G (Rg.bA G G (aT ?_)));exact aX rfl rfl ⟨by rw[yX oc (c4▸kR)];exact hv,S⟩
     ·refine aR (T.aQ (Rg.bA G G (T.aQ (ab G G (ab G G (ab G G ?_))))));refine Rg.xc (M:=M) cg mT G G G hv k3 (λu73 Cd=>?_);rw[an]at Cd;refine cN (M:=M) (base:=w0.heap.size) (xs:=[]) cg mT rfl rfl rfl rfl (dh _ _ _ _ _) Cd bY a03 a03 S.size (λv7 M7 w7 ho s7=>?_);replace s7:=s7.eL (N':=aA) (λb hb=>by unfold gy at hb;cases hb) (λb h=>h.elim);replace hv:=hv.le s7.le;replace kA:=kA.le q0 s7.le;replace hM:=s7.lt hM;have:=S.size;replace S:=S.aw s7;refine Rg.bA G G (T.aQ (ab G G ?_));refine cW (A:=RT.fd) cw G mT q0 G G G kA bY (λv81 Tk=>?_);refine dP (A:=RT.fd) (hn:=by decide) (M:=M7) cg mT q0 G G hM (Tk) (.inl G) (λahK ahL np uh=>?_);replace hv:=hv.le uh.le;replace kA:=kA.le q0 uh.le;replace ho:=ho.aE uh;replace hM:=uh.lt hM;have:=S.size;replace S:=S.aw uh;refine cN (M:=M7) (base:=w0.heap.size) cg mT rfl rfl rfl rfl ho np bY a03 a03 (S.size) (λahM Ib ahN Ic uj=>?_);replace hv:=hv.le uj.le;replace kA:=kA.le q0 uj.le;replace np:=np.le uj.le;replace hM:=uj.lt hM;have:=S.size;replace S:=S.cC uj ho (aN _);replace ho:=Ic;refine Rg.bA G G (T.aQ (ab G G (ab G G (ab G G ?_))));refine Rg.uC (M:=Ib) cg mT G G G hv k3 (λu93 Af=>?_);rw[an]at Af;refine cN (M:=Ib) (base:=w0.heap.size) cg mT rfl rfl rfl rfl ho Af bY a03 a03 (S.size) (λP2 U7 U8 Bb mj=>?_);replace hv:=hv.le mj.le;replace kA:=kA.le q0 mj.le;replace np:=np.le mj.le;replace hM:=mj.lt hM;have:=S.size;replace S:=S.cC mj ho (aN _)
      replace ho:=Bb;refine Rg.bA G G (aT ?_);rw[ew,eR,List.singleton_append]at ho;rw[<-kN Sb a18]at ho;exact aX rfl rfl ⟨gT (hn:=by decide) ir S ho (by rw[kN Sb a18];simp;omega),S.back⟩
    ·refine ao G G G G (Rg.bL (ao G G G G (Rg.bL (ao G G G G (Rg.bL (ao G G G G (Rg.bL (ao G G G G (Rg.bL (ao G G G G (Rg.bL ?_)))))))))));refine ao G G G G (Rg.bL (aM G G G (Rg.bL (dD (jD G (aR (T.aQ (Rg.bA G G (aI ?_)))))))));refine aH (ab G G (ab G G (ab G G ?_)));refine Rg.xc (M:=M) cg mT G G G hv k3 (λu73 Cd=>?_);rw[an]at Cd;refine cN (M:=M) (base:=w0.heap.size) (xs:=[]) cg mT rfl rfl rfl rfl (dh _ _ _ _ _) Cd bY a03 a03 S.size (λv7 M7 w7 ho s7=>?_);replace s7:=s7.eL (N':=aA) (λb hb=>by unfold gy at hb;cases hb) (λb h=>h.elim);replace hv:=hv.le s7.le;replace kA:=kA.le q0 s7.le;replace hM:=s7.lt hM;have:=S.size;replace S:=S.aw s7;refine Rg.bA G G (T.aQ (ab G G ?_));refine cW (A:=RT.fd) cw G mT q0 G G G kA bY (λv81 Tk=>?_);refine dP (A:=RT.fd) (hn:=by decide) (M:=M7) cg mT q0 G G hM (Tk) (.inl G) (λahK ahL np uh=>?_);replace hv:=hv.le uh.le;replace kA:=kA.le q0 uh.le;replace ho:=ho.aE uh;replace hM:=uh.lt hM;have:=S.size;replace S:=S.aw uh;refine cN (M:=M7) (base:=w0.heap.size) cg mT rfl rfl rfl rfl ho np bY a03 a03 (S.size) (λahM Ib ahN Ic uj=>?_);replace hv:=hv.le uj.le;replace kA:=kA.le q0 uj.le;replace np:=np.le uj.le;replace hM:=uj.lt hM;have:=S.size;replace S:=S.cC uj ho (aN _);replace ho:=Ic;refine Rg.bA G G (T.aQ (ab G G (ab G G (ab G G ?_))));refine Rg.uC (M:=Ib) cg mT G G G hv k3 (λu93 Af=>?_);rw[an]at Af;refine cN (M:=Ib) (base:=w0.heap.size) cg mT rfl rfl rfl rfl ho Af bY a03 a03 (S.size) (λP2 U7 U8 Bb mj=>?_)
     replace hv:=hv.le mj.le;replace kA:=kA.le q0 mj.le;replace np:=np.le mj.le;replace hM:=mj.lt hM;have:=S.size;replace S:=S.cC mj ho (aN _);replace ho:=Bb;refine Rg.bA G G (aT ?_);rw[ew,eR,List.singleton_append]at ho;rw[<-kN Sb a18]at ho;exact aX rfl rfl ⟨gT (hn:=by decide) ir S ho (by rw[kN Sb a18];simp;omega),S.back⟩
  ·refine ao G G G G (Rg.bL (ao G G G G (Rg.bL (ao G G G G (Rg.bL (ao G G G G (Rg.bL (ao G G G G (Rg.bL (ao G G G G (Rg.bL ?_)))))))))));refine dD ?_
   try (obtain⟨bb,oo,cs,ee,fr,rfl,lx,_⟩:=Tj.float)
   refine ⟨eQ ⟨ey,⟨ey,⟨(by first|exact bO.ahJ rfl|exact bO.bin rfl rfl),⟨bO.idx,⟨(by first|exact dQ rfl lx (λh=>h)|exact bO.YF rfl),trivial⟩⟩⟩⟩⟩,?_⟩;have kp:=fq aA wD2;refine ao G G G G ?_;refine(fun(kp:eB _ _ _)=>ad ⟨G,G,λ_=>kp,?_⟩) a00;refine ao G G G G (ad ⟨G,G,λh=>absurd G h,ao G G G G (ad ⟨G,G,λh=>absurd G h,aM G G G (ad ⟨G,G,λh=>absurd G h,iu (jD G (cO (aI (aI ?_))))⟩)⟩)⟩);apply jU mixed rfl rfl;intro XY VH;have sN:=VH M;replace hv:=hv.le sN.le;replace kA:=kA.le q0 sN.le;replace hM:=sN.lt hM;have:=S.size;replace S:=S.aw sN;refine ab G G (Rg.bL (iX G G G (Rg.bL (ab G G (Rg.bL ?_)))));refine aW (g:=26) G (λkM=>?_) (λkM=>?_)
   ·omega
   ·refine ao G G G G (Rg.bL (ao G G G G (Rg.bL (ao G G G G (Rg.bL (ao G G G G (Rg.bL (ao G G G G (Rg.bL (ao G G G G (Rg.bL ?_)))))))))));refine ao G G G G (Rg.bL (aM G G G (Rg.bL (dD (jD G (aR (T.aQ (Rg.bA G G (aI ?_)))))))));refine aH (ab G G (ab G G (ab G G ?_)));refine Rg.xc (M:=M) cg mT G G G hv k3 (λu73 Cd=>?_);rw[an]at Cd;refine cN (M:=M) (base:=w0.heap.size) (xs:=[]) cg mT rfl rfl rfl rfl (dh _ _ _ _ _) Cd bY a03 a03 S.size (λv7 M7 w7 ho s7=>?_);replace s7:=s7.eL (N':=aA) (λb hb=>by unfold gy at hb;cases hb) (λb h=>h.elim);replace hv:=hv.le s7.le;replace kA:=kA.le q0 s7.le;replace hM:=s7.lt hM;have:=S.size;replace S:=S.aw s7;refine Rg.bA G G (T.aQ (ab G G ?_));refine cW (A:=RT.fd) cw G mT q0 G G G kA bY (λv81 Tk=>?_);refine dP (A:=RT.fd) (hn:=by decide) (M:=M7) cg mT q0 G G hM (Tk) (.inl G) (λahK ahL np uh=>?_);replace hv:=hv.le uh.le;replace kA:=kA.le q0 uh.le;replace ho:=ho.aE uh;replace hM:=uh.lt hM;have:=S.size;replace S:=S.aw uh;refine cN (M:=M7) (base:=w0.heap.size) cg mT rfl rfl rfl rfl ho np bY a03 a03 (S.size) (λahM Ib ahN Ic uj=>?_);replace hv:=hv.le uj.le;replace kA:=kA.le q0 uj.le;replace np:=np.le uj.le;replace hM:=uj.lt hM;have:=S.size;replace S:=S.cC uj ho (aN _);replace ho:=Ic;refine Rg.bA G G (T.aQ (ab G G (ab G G (ab G G ?_))));refine Rg.uC (M:=Ib) cg mT G G G hv k3 (λu93 Af=>?_);rw[an]at Af;refine cN (M:=Ib) (base:=w0.heap.size) cg mT rfl rfl rfl rfl ho Af bY a03 a03 (S.size) (λP2 U7 U8 Bb mj=>?_)
    replace hv:=hv.le mj.le;replace kA:=kA.le q0 mj.le;replace np:=np.le mj.le;replace hM:=mj.lt hM;have:=S.size;replace S:=S.cC mj ho (aN _);replace ho:=Bb;refine Rg.bA G G (aT ?_);rw[ew,eR,List.singleton_append]at ho;rw[<-kN Sb a18]at ho;exact aX rfl rfl ⟨gT (hn:=by decide) ir S ho (by rw[kN Sb a18];simp;omega),S.back⟩
end Go.K
namespace Go.K
open Go.Proofs
namespace TKPutB
theorem abv:Enters Tryz.prog 176:=enters Tryz.func176 rfl q0
theorem ara:Enters Tryz.prog 177:=enters Tryz.func177 rfl q0
end TKPutB
open TKPutB
set_option maxRecDepth 10000
theorem zH {M:aJ} {d:Dc} {v0:Value} (w0:World) (hM:Lt M w0) (hd:RT.dc.V M w0 d v0) (hf:ky d) (hlen:∀f∈d.2,f.1.length<=900000/\f.2.length<=900000):
  Spec Tryz.prog 118 #[v0] w0 (λv w=>(RT.fd.sl).V M w (cX (cD d.2)) v/\Step M w0 M w aA):=by
 have ir:=hM;have hdl:d.2.length<=1000000:=by have:=hf.few;omega
 refine bF (args:=[_]) (fn:=Tryz.f118) Tryz.func118 G (n:=42) Tryz.ntmps118 ?_;have S:Step M w0 M w0 aA:=bz;refine T.aQ ?_;refine kB (A:=RT.dc) (a:=d) G G hM hd G (λu1 w1 o5 s0 _=>?_);replace hd:=hd.le s0.le;replace hM:=s0.lt hM;have:=S.size;replace S:=S.aw s0;refine Rg.bA G G (T.aQ (Rg.bA G G (aI (T.aQ (Rg.bA G G (aS ?_))))));refine dg (σ:=Nat×Value) (λq=>[(1,u1),(3,q.2),(4,.int .i64 (q.1:Int))]) (λq w=>Step M w0 M w aA/\dv RT.dc M w u1 d/\(RT.fd.sl).V M w (allBy fv ((cD (d.2.take q.1)).map (·.1))) q.2/\q.1<=d.2.length) (λq=>d.2.length-q.1) (0,.slice none 0 0) a06 ?_ ?_
 ·exact⟨S,o5,mX,bC _⟩
 ·clear S o5 hM;rintro⟨i,u⟩ w ⟨S,o5,hu,hi⟩;dsimp only at hu hi ⊢;have hM:=S.lt ir;refine aI (T.aQ (ab G G ?_));refine aD (A:=RT.dc) (B:=(RT.fd).sl) bg G G uU q0 EI G G q0 o5 bY (λu31 arb=>?_);refine bE bD G G G G G arb bY (λv32 arc=>?_);refine bK bD G arc G (ch G G G (ad ?_));refine bM G (λc3=>?_) (λc3=>?_)
  ·refine aR (aI (aS (aI ?_)));apply T.AO 7 mixed rfl rfl rfl rfl rfl;intro wD5 sA5;have yK:=sA5 M;replace o5:=o5.le q0 yK.le;replace hu:=hu.le yK.le;replace hM:=yK.lt hM;have:=S.size;replace S:=S.aw yK;obtain⟨x,kR⟩:∃x,d.2[i]? =some x:=⟨_,al k3⟩;refine cW (A:=RT.dc) bg G nY q0 G G G o5 bY (λv50 ard=>?_);refine Rg.bL ?_;refine aD (A:=RT.dc) (B:=(RT.fd).sl) bg G G uU q0 EI G G q0 o5 bY (λu51 arf=>?_);refine Rg.bL ?_;refine bE bD G G G G G arf bY (λv52 arh=>?_);refine Rg.bL (ab G G (Rg.bL ?_));refine bX bD ly G G G arh bY k3 (λu54 x_ eo Sw=>?_);rw[an]at eo;obtain rfl:=ar (kR.symm.trans eo);refine Rg.bL ?_;refine aD (A:=RT.fd) (B:=RT.str) cT G G I9 q0 Qr G G q0 Sw bY (λu55 abR=>?_);refine Rg.bL ?_;refine bE aG G G G G G abR bY (λv56 ari=>?_);obtain rfl:=fp ari;refine Rg.bL (dD ?_);refine a8 G G abv (zE _ hM ard hlen hdl) (λr5 w5 hc=>?_);obtain⟨pQ,s5⟩:=hc;rw[OC hf kR]at pQ;have hwl:=n0 x.2;have qb:=hlen _ (au kR);replace o5:=o5.le q0 s5.le;replace hu:=hu.le s5.le;replace hM:=s5.lt hM;have:=S.size;replace S:=S.aw s5;refine Rg.bA G G (T.aQ (Rg.bA G G (aS ?_)));refine dg (σ:=Nat×Value) (λq=>[(1,u1),(3,q.2),(4,.int .i64 (i:Int)),(5,r5),(6,.int .i64 (q.1:Int))]) (λq w=>Step M w0 M w aA/\dv RT.dc M w u1 d/\(RT.fd.sl).V M w (allBy fv (qC (d.2.take i) x q.1)) q.2/\(RT.str.sl).V M w (words x.2) r5/\q.1<=(words x.2).length) (λq=>(words x.2).length-q.1) (0,u) a19 ?_ ?_
   ·exact⟨S,o5,by unfold qC;simpa using hu,pQ,bC _⟩
   ·clear S o5 hM pQ hu;rintro⟨k,u2⟩ w ⟨S,o5,hu,pQ,hk⟩;dsimp only at hu hk ⊢;have hM:=S.lt ir;refine aI (T.aQ (ab G G (ab G G (bK az G pQ G (ch G G G (ad ?_))))));refine bM G (λc7=>?_) (λc7=>?_)
    ·refine aR (aI (aS ?_));apply T.AO 12 mixed rfl rfl rfl rfl rfl;intro Uv Yi;have Cx:=Yi M;replace o5:=o5.le q0 Cx.le;replace hu:=hu.le Cx.le;replace pQ:=pQ.le Cx.le;replace hM:=Cx.lt hM;have:=S.size;replace S:=S.aw Cx;refine ab G G (Rg.bL ?_);obtain⟨y,GC⟩:∃y,(words x.2)[k]? =some y:=⟨_,al k3⟩;refine aD (A:=RT.dc) (B:=(RT.fd).sl) bg G G uU q0 EI G G q0 o5 bY (λu91 arj=>?_);refine Rg.bL ?_;refine bE bD G G G G G arj bY (λv92 ark=>?_);refine Rg.bL (ab G G (Rg.bL ?_));refine bX bD ly G G G ark bY k3 (λu94 x_ eo arl=>?_);rw[an]at eo;obtain rfl:=ar (kR.symm.trans eo);refine Rg.bL ?_;refine aD (A:=RT.fd) (B:=RT.str) cT G G I9 q0 Qr G G q0 arl bY (λu95 abS=>?_);refine Rg.bL ?_;refine bE aG G G G G G abS bY (λv96 abT=>?_);obtain rfl:=fp abT;refine Rg.bL (ab G G (Rg.bL (ab G G (Rg.bL ?_))));refine bX az I9 G G G pQ bY k3 (λu99 x_ eo arn=>?_);rw[an]at eo;obtain rfl:=ar (GC.symm.trans eo);refine Rg.bL ?_;refine bE aG G G G G G arn bY (λaCu ahO=>?_);obtain rfl:=fp ahO;refine Rg.bL (ie (places:=[(0,1),(1,1)]) cw mT B78 rfl ⟨_,_,rfl,rfl,_,_,rfl,rfl,rfl⟩ (out:=[_,_]) ⟨0,[_],rfl,rfl,by simp[Value.cells],1,[_],rfl,rfl,by simp[Value.cells],rfl⟩ (Rg.bL (dD ?_)));obtain⟨jr,hal⟩:=MC hf kR k;obtain⟨oc,CI,hle⟩:=Tf jr;obtain⟨_,hn1,hn2⟩:=(MC hf kR (k+1)).1 (x.1,y) (by rw[Eb GC];simp);have htv:RT.fd.V M Uv (x.1,y) (kv (x.1,y)):=fE (j8.2 ⟨rfl,by dsimp only at hn1;omega⟩) (j8.2 ⟨rfl,by dsimp only at hn2;omega⟩) rfl rfl rfl rfl;refine a8 G G ara (Fm (t:=(x.1,y)) _ hM hu htv oc CI ⟨by omega,by omega⟩ k3) (λr9 w9 hc=>?_)
     obtain⟨hr9,s9⟩:=hc;rw[<-wI,<-Eb GC]at hr9;replace o5:=o5.le q0 s9.le;replace hu:=hu.le s9.le;replace pQ:=pQ.le s9.le;replace hM:=s9.lt hM;have:=S.size;replace S:=S.aw s9;refine Rg.bA G G (aH (ab G G (bG G G G k3 (Rg.bA G G ?_))));refine⟨G,(k+1,r9),a19,?_,?_⟩
     ·exact⟨S,o5,hr9,pQ,by dsimp only;omega⟩
     ·dsimp only;omega
    ·refine cO (aH (ab G G (bG G G G k3 (Rg.bA G G ?_))));refine⟨G,(i+1,u2),a06,?_,?_⟩
     ·exact⟨S,o5,by dsimp only;rw[<-Ea kR,<-show k=(words x.2).length by omega];exact hu,by dsimp only;omega⟩
     ·dsimp only;omega
  ·refine cO (T.aQ (ab G G (Rg.bA G G (aT ?_))));rw[aL k3]at hu;exact aX G G ⟨hu,S⟩
end Go.K
namespace Go.K
open Go.Proofs
namespace TKPutC
theorem aro:Enters Tryz.prog 178:=enters Tryz.func178 rfl q0
end TKPutC
open TKPutC
set_option maxRecDepth 10000
theorem xU (l:List (List UInt8)):CZ (allBy id l)/\(allBy id l).length<=l.length/\∀k,k∈allBy id l↔k∈l:=by
 have h1:=rD (key:=id) (S:=λ_=>True) (λa b _ _ h=>h) l [] (λ_ _=>trivial) (λ_ _=>trivial) List.Pairwise.nil
 have hm:∀t,t∈allBy id l↔t∈l:=λt=>by
  have:=h1.2 t;unfold allBy;simpa using this
 have hu:CZ (allBy id l):=h1.1;exact⟨hu,hu.nodup.length_le_of_subset (λt ht=>(hm t).1 ht),hm⟩
theorem Ie {M:aJ} {l:List (List UInt8)} {k:List UInt8} {v0:Value} (w0:World) (hM:Lt M w0) (hv:(RT.str.sl).V M w0 l v0) (hl:l.length<=1000000000):
  Spec Tryz.prog 178 #[v0,sv k] w0 (λv w=>(∃i:Nat,v= .tuple #[.int .i64 (i:Int),.bool (decide (l[i]? =some k))]/\i<=l.length/\(∀x∈l.take i,x<k)/\∀x,l[i]? =some x->¬x<k)/\Step M w0 M w aA):=by
 have ir:=hM;refine bF (args:=[_,_]) (fn:=Tryz.f178) Tryz.func178 G (n:=28) Tryz.ntmps178 ?_;have S:Step M w0 M w0 aA:=bz;refine T.aQ (aB G G (Rg.bA G G (aI (T.aQ (Rg.bA G G (aS ?_))))));refine dg (σ:=Nat) (λi=>[(0,v0),(1,sv k),(6,.int .i64 (i:Int))]) (λi w=>Step M w0 M w aA/\(RT.str.sl).V M w l v0/\i<=l.length/\∀x∈l.take i,x<k) (λi=>l.length-i) 0 a06 ?_ ?_
 ·exact⟨S,hv,bC _,λx h=>by simp at h⟩
 ·clear S hv hM;rintro i w ⟨S,hv,hi,Mi⟩;have hM:=S.lt ir;refine aI (T.aQ (ab G G (ab G G (bK az G hv G (ch G G G (ad ?_))))));refine bM G (λc2=>?_) (λc2=>?_)
  ·refine aR (aI (aS (T.aQ (ab G G (ab G G ?_)))));obtain⟨x,kR⟩:∃x,l[i]? =some x:=⟨_,al k3⟩;refine bX az I9 G G G hv bY k3 (λu42 x_ eo arp=>?_);rw[an]at eo;obtain rfl:=ar (kR.symm.trans eo);refine bE aG G G G G G arp bY (λv43 Ig=>?_);obtain rfl:=fp Ig;refine ab G G (Rg.Q5 G G G (ad ?_));refine bM G (λc4=>?_) (λc4=>?_)
   ·refine aI ?_;apply jU mixed rfl rfl;intro wD5 sA5;have yK:=sA5 M;replace hv:=hv.le yK.le;replace hM:=yK.lt hM;have:=S.size;replace S:=S.aw yK;refine ab G G (Rg.bL (ab G G (Rg.bL (ab G G (Rg.bL ?_)))));refine bX az I9 G G G hv bY k3 (λu53 x_ eo xL=>?_);rw[an]at eo;obtain rfl:=ar (kR.symm.trans eo);refine Rg.bL ?_;refine bE aG G G G G G xL bY (λv54 KL=>?_);obtain rfl:=fp KL;refine Rg.bL (ab G G (Rg.bL (Rg.xa G G G (Rg.bL (aB G G (Rg.bL (aB G G (Rg.bL (dD (aT ?_))))))))));exact fA rfl rfl rfl ⟨⟨i,by rw[kR];first|rfl|simp,by omega,Mi,λz hz=>by rw[kR]at hz;cases hz;exact c4⟩,S⟩
   ·refine aR (aH (ab G G (bG G G G k3 (Rg.bA G G ?_))));refine⟨G,i+1,a06,?_,?_⟩
    ·exact⟨S,hv,by omega,λz hz=>by
      rw[bB,kR,bU]at hz;rcases cP.1 hz with hz|hz
      ·exact Mi z hz
      ·rw[b9.1 hz];exact dj.1 c4⟩
    ·omega
  ·refine cO (T.aQ (ab G G (bK az G hv G (aB G G (Rg.bA G G (aT ?_))))));exact fA rfl rfl rfl ⟨⟨l.length,by rw[cE (aN _)];rfl,aN _,by rw[aL k3]at Mi;rwa [aL (aN _)],λz hz=>by rw[cE (aN _)]at hz;cases hz⟩,S⟩
theorem Ec {M:aJ} {l:List (List UInt8)} {k:List UInt8} {v0:Value} (w0:World) (hM:Lt M w0) (hv:(RT.str.sl).V M w0 l v0) (oc:CZ l) (hk:k.length<=140737488355328) (hl:l.length<=1000000000):
  Spec Tryz.prog 119 #[v0,sv k] w0 (λv w=>(RT.str.sl).V M w (k7 id k l) v/\Step M w0 M w aA):=by
 have ir:=hM;refine bF (args:=[_,_]) (fn:=Tryz.f119) Tryz.func119 G (n:=30) Tryz.ntmps119 ?_;have S:Step M w0 M w0 aA:=bz;refine T.aQ (Rg.bA G G (T.aQ (ab G G (ab G G ?_))));refine a8 G G aro (Ie _ hM hv hl) (λr1 w1 hc=>?_);obtain⟨⟨i,rfl,hi,Mi,Sb⟩,s1⟩:=hc;replace hv:=hv.le s1.le;replace hM:=s1.lt hM;have:=S.size;replace S:=S.aw s1;refine ab G G (cq G G G (cq G G G (aB G G (Rg.bA G G (aI (T.aQ (ab G G (ad ?_))))))));refine bM G (λc2=>?_) (λc2=>?_)
 ·refine T.aQ (ab G G (Rg.bA G G (aT ?_)));exact aX rfl rfl ⟨by rw[yX (key:=id) oc c2];exact hv,S⟩
 ·refine aR (T.aQ (Rg.bA G G (T.aQ (ab G G (ab G G (ab G G ?_))))));refine Rg.xc (M:=M) az I9 G G G hv k3 (λu53 xL=>?_);rw[an]at xL;refine cN (M:=M) (base:=w0.heap.size) (xs:=[]) az I9 rfl rfl rfl rfl (dh _ _ _ _ _) xL bY a03 a03 S.size (λv5 M5 w5 ho s5=>?_);replace s5:=s5.eL (N':=aA) (λb hb=>by unfold gy at hb;cases hb) (λb h=>h.elim);replace hv:=hv.le s5.le;replace hM:=s5.lt hM;have:=S.size;replace S:=S.aw s5;refine Rg.bA G G (T.aQ (ab G G (ab G G ?_)));refine dP (A:=RT.str) (hn:=by decide) (M:=M5) az I9 q0 G G hM (j8.2 ⟨G,hk⟩) (.inr ⟨G,G⟩) (λVd aCw xJ Wt=>?_);replace hv:=hv.le Wt.le;replace ho:=ho.aE Wt;replace hM:=Wt.lt hM;have:=S.size;replace S:=S.aw Wt;refine cN (M:=M5) (base:=w0.heap.size) az I9 rfl rfl rfl rfl ho xJ bY a03 a03 (S.size) (λaCx ahR afb ahS CU=>?_);replace hv:=hv.le CU.le;replace xJ:=xJ.le CU.le;replace hM:=CU.lt hM;have:=S.size;replace S:=S.cC CU ho (aN _);replace ho:=ahS;refine Rg.bA G G (T.aQ (ab G G (ab G G (ab G G ?_))));refine Rg.uC (M:=ahR) az I9 G G G hv k3 (λu73 Cd=>?_);rw[an]at Cd;refine cN (M:=ahR) (base:=w0.heap.size) az I9 rfl rfl rfl rfl ho Cd bY a03 a03 (S.size) (λamQ aCy aCz ahT Wu=>?_);replace hv:=hv.le Wu.le;replace xJ:=xJ.le Wu.le;replace hM:=Wu.lt hM;have:=S.size;replace S:=S.cC Wu ho (aN _);replace ho:=ahT;refine Rg.bA G G (aT ?_)
  have e:k7 id k l=l.take i++k::l.drop i:=kN (key:=id) (λx hx=>by
   have h9:∀y,l[i]? =some y->k<y:=λy hy=>by
    rcases kX k y with h|h|h
    ·exact h
    ·subst h;exact absurd hy c2
    ·exact absurd h (Sb y hy)
   obtain⟨j,hj,rfl⟩:=l0.1 hx;rw[dS]at hj;rw[List.getElem_drop];have h8:=h9 l[i] (al k3)
   cases j with
   |zero=>exact h8
   |succ j=>exact lS h8 (cJ.1 oc i (i+(j+1)) k3 k3 k3)) (λx hx=>⟨jx (Mi x hx),λh=>by subst h;exact jw _ (Mi _ hx)⟩)
  rw[ew,eR,List.singleton_append,<-e]at ho;exact aX rfl rfl ⟨gT (hn:=by decide) ir S ho (by rw[e];simp;omega),S.back⟩
end Go.K
namespace Go.K
open Go.Proofs
namespace TKPutD
theorem ahU:Enters Tryz.prog 118:=enters Tryz.func118 rfl q0
theorem abU:Enters Tryz.prog 119:=enters Tryz.func119 rfl q0
theorem Td:Enters Tryz.prog 120:=enters Tryz.func120 rfl q0
theorem arq:Enters Tryz.prog 121:=enters Tryz.func121 rfl q0
end TKPutD
open TKPutD
set_option maxRecDepth 10000
def vI (L:List En) (e:En) (k:Nat):List (List UInt8):=jb L++((cX (mU e)).take k).map fv
theorem KM {L:List En} {e:En} {i:Nat} (h:L[i]? =some e):vI (L.take i) e (cX (mU e)).length=jb (L.take (i+1)):=by
 unfold vI;rw[bB,h,bU,BD,mB]
theorem KN {L:List En} {e:En} {k:Nat} {t:Fd} (h:(cX (mU e))[k]? =some t):vI L e (k+1)=vI L e k++[fv t]:=by
 unfold vI;rw[bB,h,bU,cG,eR];rfl
theorem xV {d:Dc} (hf:ky d):(∀t∈cX (cD d.2),t.1.length<=12/\t.2.length<=30)/\(cX (cD d.2)).length<=500:=by
 refine⟨λt ht=>?_,?_⟩
 ·obtain⟨p,hp,rfl⟩:=ck.1 ((kY hf.NW).1 ht);exact hf.small p hp
 ·have:=(tQ hf.NW).nodup.length_le_of_subset (l₂:=(cD d.2).map (·.1)) (λt ht=>(kY hf.NW).1 ht);rw[ay]at this;have:=hf.many;omega
theorem OD {L:List En} (hF:∀e∈L,ky e.1) {e:En} {i k:Nat} (h:L[i]? =some e) (hl:L.length<=1000000):(vI (L.take i) e k).length<=500000500:=by
 have h1:=mK (L:=L.take i) (λx hx=>hF x (lV hx));have h2:=(xV (hF e (au h))).2;unfold vI;rw[aY,ay,aU];rw[aU]at h1;have h3:(cX (mU e)).length<=500:=h2;omega
theorem Tl (t:Fd):(fv t).length=t.1.length+1+t.2.length:=by unfold fv;simp;omega
theorem KO {M:aJ} {L:List En} {v0:Value} (w0:World) (hM:Lt M w0) (hv:(RT.en.sl).V M w0 L v0) (hF:∀e∈L,ky e.1) (hlen:∀e∈L,∀f∈e.1.2,f.1.length<=900000/\f.2.length<=900000) (hl:L.length<=1000000):
  Spec Tryz.prog 69 #[v0] w0 (λv w=>(RT.str.sl).V M w (keysOf L) v/\Step M w0 M w aA):=by
 have ir:=hM;refine bF (args:=[_]) (fn:=Tryz.f69) Tryz.func69 G (n:=33) Tryz.ntmps69 ?_;have S:Step M w0 M w0 aA:=bz;refine T.aQ (Rg.bA G G (T.aQ (Rg.bA G G (aI (T.aQ (aB G G ?_))))));refine ad (aS ?_);refine dg (σ:=Nat×Value) (λq=>[(0,v0),(3,q.2),(4,.int .i64 (q.1:Int))]) (λq w=>Step M w0 M w aA/\(RT.en.sl).V M w L v0/\(RT.str.sl).V M w (allBy id (jb (L.take q.1))) q.2/\q.1<=L.length) (λq=>L.length-q.1) (0,.slice none 0 0) a06 ?_ ?_
 ·exact⟨S,hv,mX,bC _⟩
 ·clear S hv hM;rintro⟨i,u⟩ w ⟨S,hv,hu,hi⟩;dsimp only at hu hi ⊢;have hM:=S.lt ir;refine aI (T.aQ (ab G G (ab G G (bK dp G hv G (ch G G G (ad ?_))))));refine bM G (λc3=>?_) (λc3=>?_)
  ·refine aR (aI (aS (T.aQ (ab G G (ab G G ?_)))));obtain⟨e,kR⟩:∃x,L[i]? =some x:=⟨_,al k3⟩;have hfe:=hF e (au kR);have hle:=hlen e (au kR);obtain⟨I1,htn⟩:=xV hfe;refine bX dp A3 G G G hv bY k3 (λu52 x_ eo abW=>?_);rw[an]at eo;obtain rfl:=ar (kR.symm.trans eo);refine aD (A:=RT.en) (B:=RT.dc) dH G G nY q0 Ve G G q0 abW bY (λu53 xL=>?_);refine cW (A:=RT.dc) bg G nY q0 G G G xL bY (λv54 KL=>?_);refine a8 G G ahU (zH _ hM KL hfe hle) (λr5 w5 hc=>?_);obtain⟨pQ,s5⟩:=hc;replace hv:=hv.le s5.le;replace hu:=hu.le s5.le;replace hM:=s5.lt hM;have:=S.size;replace S:=S.aw s5;refine Rg.bA G G (T.aQ (Rg.bA G G (aS ?_)));refine dg (σ:=Nat×Value) (λq=>[(0,v0),(3,q.2),(4,.int .i64 (i:Int)),(5,r5),(6,.int .i64 (q.1:Int))]) (λq w=>Step M w0 M w aA/\(RT.en.sl).V M w L v0/\(RT.str.sl).V M w (allBy id (vI (L.take i) e q.1)) q.2/\(RT.fd.sl).V M w (cX (cD e.1.2)) r5/\q.1<=(cX (cD e.1.2)).length) (λq=>(cX (cD e.1.2)).length-q.1) (0,u) a19 ?_ ?_
   ·exact⟨S,hv,by unfold vI;simpa using hu,pQ,bC _⟩
   ·clear S hv hM pQ hu;rintro⟨k,u2⟩ w ⟨S,hv,hu,pQ,hk⟩;dsimp only at hu hk ⊢;have hM:=S.lt ir;refine aI (T.aQ (ab G G (ab G G (bK cg G pQ G (ch G G G (ad ?_))))));refine bM G (λc7=>?_) (λc7=>?_)
    ·refine aR (aI (aS (aH (ab G G (ab G G (ab G G ?_))))));obtain⟨t,SK⟩:∃x,(cX (cD e.1.2))[k]? =some x:=⟨_,al k3⟩;obtain⟨LU,Bj⟩:=I1 t (au SK);refine bX cg mT G G G pQ bY k3 (λu93 x_ eo Af=>?_);rw[an]at eo;obtain rfl:=ar (SK.symm.trans eo);refine cW (A:=RT.fd) cw G mT q0 G G G Af bY (λv94 abX=>?_);obtain rfl:v94=kv t:=mF abX;refine a8 G G Td (uF (t:=t) _ hM k3 k3) (λr95 w95 hc=>?_);obtain⟨rfl,s95⟩:=hc;replace hv:=hv.le s95.le;replace hu:=hu.le s95.le;replace pQ:=pQ.le s95.le;replace hM:=s95.lt hM;have:=S.size;replace S:=S.aw s95;obtain⟨oc,uQ,_⟩:=xU (vI (L.take i) e k);have Oc:=OD (k:=k) hF kR hl;refine a8 rfl rfl abU (Ec (k:=fv t) _ hM hu oc (by rw[Tl];omega) k3) (λr9 w9 hc=>?_);obtain⟨hr9,s9⟩:=hc;rw[<-wI,<-KN SK]at hr9;replace hv:=hv.le s9.le;replace hu:=hu.le s9.le;replace pQ:=pQ.le s9.le;replace hM:=s9.lt hM;have:=S.size;replace S:=S.aw s9;refine Rg.bA G G (aH (ab G G (bG G G G k3 (Rg.bA G G ?_))));refine⟨G,(k+1,r9),a19,?_,?_⟩
     ·exact⟨S,hv,hr9,pQ,by dsimp only;omega⟩
     ·dsimp only;omega
    ·refine cO (aH (ab G G (bG G G G k3 (Rg.bA G G ?_))));refine⟨G,(i+1,u2),a06,?_,?_⟩
     ·exact⟨S,hv,by dsimp only;rw[<-KM kR,show(cX (mU e)).length=k from dw (show k=(cX (cD e.1.2)).length by omega)];exact hu,by dsimp only;omega⟩
     ·dsimp only;omega
  ·refine cO (T.aQ (ab G G (Rg.bA G G (aT ?_))));rw[aL k3]at hu;exact aX G G ⟨hu,S⟩
def O7 (L:List En) (key:List UInt8) (i:Nat) (e:En) (k:Nat):List Po:=xE key 0 (L.take i)++((((cX (mU e)).take k).filter λt=>decide (fv t=key)).map λt=>((i:Int),posOf (mU e) t))
theorem Tn {L:List En} {key:List UInt8} {i:Nat} {e:En} (h:L[i]? =some e):O7 L key i e (cX (mU e)).length=xE key 0 (L.take (i+1)):=by
 have hi:=(aj.1 h).1;unfold O7;rw[bB,h,bU,xF,mB,aU,jB (Nat.le_of_lt hi),fh];rfl
theorem Wv {L:List En} {key:List UInt8} {i:Nat} {e:En} {k:Nat} {t:Fd} (h:(cX (mU e))[k]? =some t) (hk:fv t=key):O7 L key i e (k+1)=O7 L key i e k++[((i:Int),posOf (mU e) t)]:=by
 unfold O7;rw[bB,h,bU,jK,uB (by simpa using hk),List.filter_nil,cG,eR];rfl
theorem To {L:List En} {key:List UInt8} {i:Nat} {e:En} {k:Nat} {t:Fd} (h:(cX (mU e))[k]? =some t) (hk: ¬fv t=key):O7 L key i e (k+1)=O7 L key i e k:=by
 unfold O7;rw[bB,h,bU,jK,List.filter_cons_of_neg (by simpa using hk),List.filter_nil,eJ]
theorem MD {L:List En} {key:List UInt8} {i:Nat} {e:En} {k:Nat} (hF:∀e∈L,ky e.1) (h:L[i]? =some e):(O7 L key i e k).length<=L.length+500:=by
 have h1:=(mJ key (L.take i) 0 (λe he=>hF e (lV he))).1;have h2:(cX (mU e)).length<=500:=(xV (hF e (au h))).2;have h3:=fz (λt=>decide (fv t=key)) ((cX (mU e)).take k);unfold O7;rw[aY,ay];rw[aU]at h1 h3;omega
theorem KP {M:aJ} {L:List En} {key:List UInt8} {v0:Value} (w0:World) (hM:Lt M w0) (hv:(RT.en.sl).V M w0 L v0) (hF:∀e∈L,ky e.1) (hlen:∀e∈L,∀f∈e.1.2,f.1.length<=900000/\f.2.length<=900000) (hl:L.length<=1000000):
  Spec Tryz.prog 70 #[v0,sv key] w0 (λv w=>(RT.po.sl).V M w (pk L key) v/\Step M w0 M w aA):=by
 have ir:=hM;refine bF (args:=[_,_]) (fn:=Tryz.f70) Tryz.func70 G (n:=50) Tryz.ntmps70 ?_;have S:Step M w0 M w0 aA:=bz;refine T.aQ (Rg.bA G G (T.aQ (Rg.bA G G (aI (T.aQ (aB G G ?_))))));refine ad (aS ?_);refine dg (σ:=Nat×Value) (λq=>[(0,v0),(1,sv key),(5,q.2),(6,.int .i64 (q.1:Int))]) (λq w=>∃M',Lt M' w/\Step M w0 M' w aA/\(RT.en.sl).V M' w L v0/\Own RT.po 83 M' w w0.heap.size q.2 (xE key 0 (L.take q.1))/\q.1<=L.length) (λq=>L.length-q.1) (0,.slice none 0 0) Y7 ?_ ?_
 ·exact⟨M,hM,S,hv,dh _ _ _ _ _,bC _⟩
 ·clear S hv hM;rintro⟨i,u⟩ w ⟨M1,hM,S,hv,ho,hi⟩;dsimp only at ho hi ⊢;refine aI (T.aQ (ab G G (ab G G (bK dp G hv G (ch G G G (ad ?_))))));refine bM G (λc3=>?_) (λc3=>?_)
  ·refine aR (aI (aS (T.aQ (ab G G (ab G G ?_)))));obtain⟨e,kR⟩:∃x,L[i]? =some x:=⟨_,al k3⟩;have hfe:=hF e (au kR);have hle:=hlen e (au kR);obtain⟨I1,htn⟩:=xV hfe;refine bX dp A3 G G G hv bY k3 (λu52 x_ eo abW=>?_);rw[an]at eo;obtain rfl:=ar (kR.symm.trans eo);refine aD (A:=RT.en) (B:=RT.dc) dH G G nY q0 Ve G G q0 abW bY (λu53 xL=>?_);refine cW (A:=RT.dc) bg G nY q0 G G G xL bY (λv54 KL=>?_);refine a8 G G ahU (zH _ hM KL hfe hle) (λr5 w5 hc=>?_);obtain⟨pQ,s5⟩:=hc;replace hv:=hv.le s5.le;replace ho:=ho.aE s5;replace hM:=s5.lt hM;have:=S.size;replace S:=S.aw s5;refine Rg.bA G G (T.aQ (Rg.bA G G (aS ?_)));refine dg (σ:=Nat×Value) (λq=>[(0,v0),(1,sv key),(5,q.2),(6,.int .i64 (i:Int)),(7,r5),(8,.int .i64 (q.1:Int))]) (λq w=>∃M',Lt M' w/\Step M w0 M' w aA/\(RT.en.sl).V M' w L v0/\Own RT.po 83 M' w w0.heap.size q.2 (O7 L key i e q.1)/\(RT.fd.sl).V M' w (cX (cD e.1.2)) r5/\q.1<=(cX (cD e.1.2)).length) (λq=>(cX (cD e.1.2)).length-q.1) (0,u) a10 ?_ ?_
   ·exact⟨_,hM,S,hv,by unfold O7;simpa using ho,pQ,bC _⟩
   ·clear S hv hM pQ ho;rintro⟨k,u2⟩ w ⟨M2,hM,S,hv,ho,pQ,hk⟩;dsimp only at ho hk ⊢;refine aI (T.aQ (ab G G (ab G G (bK cg G pQ G (ch G G G (ad ?_))))));refine bM G (λc7=>?_) (λc7=>?_)
    ·refine aR (aI (aS (T.aQ (ab G G (ab G G ?_)))));obtain⟨t,SK⟩:∃x,(cX (cD e.1.2))[k]? =some x:=⟨_,al k3⟩;obtain⟨LU,Bj⟩:=I1 t (au SK);refine bX cg mT G G G pQ bY k3 (λu92 x_ eo ars=>?_);rw[an]at eo;obtain rfl:=ar (SK.symm.trans eo);refine cW (A:=RT.fd) cw G mT q0 G G G ars bY (λv93 art=>?_);obtain rfl:v93=kv t:=mF art;refine a8 G G Td (uF (t:=t) _ hM k3 k3) (λr94 w94 hc=>?_);obtain⟨rfl,s94⟩:=hc;replace hv:=hv.le s94.le;replace pQ:=pQ.le s94.le;replace ho:=ho.aE s94;replace hM:=s94.lt hM;have:=S.size;replace S:=S.aw s94;refine ab G G (Rg.xa G G G (ad ?_));refine bM G (λc9=>?_) (λc9=>?_)
     ·subst c9;apply nq 11 [0,1] 3 aA mixed rfl rfl rfl rfl;intro aru arv;have Tp:=arv M2;replace hv:=hv.le Tp.le;replace pQ:=pQ.le Tp.le;replace ho:=ho.aE Tp;replace hM:=Tp.lt hM;have:=S.size;replace S:=S.aw Tp;refine ab G G (Rg.bL (ab G G (Rg.bL (ab G G (Rg.bL (ab G G (Rg.bL ?_)))))));refine bX dp A3 G G G hv bY k3 (λaCC x_ eo ahX=>?_);rw[an]at eo;obtain rfl:=ar (kR.symm.trans eo);refine Rg.bL ?_;refine aD (A:=RT.en) (B:=RT.dc) dH G G nY q0 Ve G G q0 ahX bY (λaCD ahY=>?_);refine Rg.bL ?_;refine cW (A:=RT.dc) bg G nY q0 G G G ahY bY (λaCE ahZ=>?_);refine Rg.bL (ab G G (Rg.bL (ab G G (Rg.bL ?_))));refine bX cg mT G G G pQ bY k3 (λaCF x_ eo ah0=>?_);rw[an]at eo;obtain rfl:=ar (SK.symm.trans eo);refine Rg.bL ?_;refine cW (A:=RT.fd) cw G mT q0 G G G ah0 bY (λawL abY=>?_);refine Rg.bL (dD (⟨eQ ⟨ey,⟨ey,trivial⟩⟩,?_⟩));have kp:=fq aA aru;refine a8 G G arq (HG (t:=t) _ hM ahZ hle (by have:=hfe.few;omega) abY) (λr10 w10 hc=>?_);obtain⟨KQ,As⟩:=hc;rw[Tg hfe.once]at KQ;obtain⟨ap,cp,rfl,arw⟩:=jg.1 KQ;clear arw;replace hv:=hv.le As.le;replace pQ:=pQ.le As.le;replace ho:=ho.aE As;replace hM:=As.lt hM;have:=S.size;replace S:=S.aw As;refine(fun(kp:eB _ _ _)=>ad ⟨G,G,λ_=>kp,?_⟩) a00;refine ie (places:=[(0,1),(1,1)]) bW ng ZE rfl ⟨_,_,rfl,rfl,_,_,rfl,rfl,rfl⟩ (out:=[_,_]) ⟨0,[_],rfl,rfl,by simp[Value.cells],1,[_],rfl,rfl,by simp[Value.cells],rfl⟩ ?_
      refine(fun(kp:eB _ _ _)=>ad ⟨G,G,λ_=>kp,?_⟩) a00;refine dP (A:=RT.po) (hn:=by decide) (M:=M2) bu ng q0 G G hM (fE (gw (x:=(i:Int)) k3) KQ G G G G) (.inl G) (λarx ary Fp yY=>?_);replace hv:=hv.le yY.le;replace pQ:=pQ.le yY.le;replace KQ:=KQ.le yY.le;replace ho:=ho.aE yY;replace hM:=yY.lt hM;have:=S.size;replace S:=S.aw yY;refine(fun(kp:eB _ _ _)=>ad ⟨G,G,λ_=>kp,?_⟩) a00;refine cN (M:=M2) (base:=w0.heap.size) bu ng G G G G ho Fp bY (by have:=MD (key:=fv t) (k:=k) hF kR;simp;omega) (by have:=MD (key:=fv t) (k:=k) hF kR;simp;omega) (S.size) (λabZ arz arA Ww yZ=>?_);replace hv:=hv.le yZ.le;replace pQ:=pQ.le yZ.le;replace KQ:=KQ.le yZ.le;replace Fp:=Fp.le yZ.le;replace hM:=yZ.lt hM;have:=S.size;replace S:=S.cC yZ ho (aN _);replace ho:=Ww;refine ad ⟨G,G,λh=>absurd G h,aB G G (ad ⟨G,G,λh=>absurd G h,iu (aH (ab G G (bG G G G k3 (Rg.bA G G ?_))))⟩)⟩;refine⟨G,(k+1,abZ),a10,?_,?_⟩
      ·exact⟨_,hM,S,hv,by dsimp only;rw[Wv SK rfl];exact ho,pQ,by dsimp only;omega⟩
      ·dsimp only;omega
     ·refine aR (aH (ab G G (bG G G G k3 (Rg.bA G G ?_))));refine⟨G,(k+1,u2),a10,?_,?_⟩
      ·exact⟨_,hM,S,hv,by dsimp only;rw[To SK c9];exact ho,pQ,by dsimp only;omega⟩
      ·dsimp only;omega
    ·refine cO (aH (ab G G (bG G G G k3 (Rg.bA G G ?_))));refine⟨G,(i+1,u2),Y7,?_,?_⟩
     ·exact⟨_,hM,S,hv,by dsimp only;rw[<-Tn kR,show(cX (mU e)).length=k from dw (show k=(cX (cD e.1.2)).length by omega)];exact ho,by dsimp only;omega⟩
     ·dsimp only;omega
  ·refine cO (T.aQ (ab G G (Rg.bA G G (aT ?_))));rw[aL k3]at ho;exact aX G G ⟨gT (hn:=by decide) ir S ho (by show(xE key 0 L).length<=_;have:=(mJ key L 0 hF).1;omega),S.back⟩
end Go.K
namespace Go.K
open Go.Proofs
namespace TKSegL
theorem tU:TI Tryz.prog 58 (.slice none 0 0) 1 24:=by unfold TI;kernel_rfl
theorem wK:TI Tryz.prog 80 (.slice none 0 0) 1 24:=by unfold TI;kernel_rfl
theorem E33:Enters Tryz.prog 33:=enters Tryz.func33 rfl q0
theorem E74:Enters Tryz.prog 74:=enters Tryz.func74 rfl q0
theorem E75:Enters Tryz.prog 75:=enters Tryz.func75 rfl q0
end TKSegL
open TKSegL
set_option maxRecDepth 10000
def OE (p q:Pa):Bool:=decide (p.1=q.1)&&decide (p.2.1=q.2.1)&&decide (p.2.2.1=q.2.2.1)&&decide (p.2.2.2=q.2.2.2)
theorem Ih {p q:Pa}:OE p q=true↔p=q:=by
 simp only[OE,cv,decide_eq_true_eq];exact⟨λh=>vP h.1.1.1 (vP h.1.1.2 (vP h.1.2 h.2)),λh=>by subst h;exact⟨⟨⟨G,G⟩,G⟩,G⟩⟩
theorem jz {p q:Pa} (h:p≠q):OE p q=false:=dO.2 λe=>h (Ih.1 e)
theorem Ii {M:aJ} {p q:Pa} {v u:Value} (w0:World) (hM:Lt M w0) (hp:RT.pa.V M w0 p v) (hq:RT.pa.V M w0 q u):
  Spec Tryz.prog 30 #[v,u] w0 (λv' w'=>v'= .bool (OE p q)/\Step M w0 M w' aA):=by
 have ir:=hM;refine bF (args:=[_,_]) (fn:=Tryz.f30) Tryz.func30 G (n:=64) Tryz.ntmps30 ?_;have S:Step M w0 M w0 aA:=bz;refine T.aQ ?_;refine kB (A:=RT.pa) (a:=p) G G hM hp G (λu2 wb0 mu YG _=>?_);replace hp:=hp.le YG.le;replace hq:=hq.le YG.le;replace hM:=YG.lt hM;have:=S.size;replace S:=S.aw YG;refine kB (A:=RT.pa) (a:=q) G G hM hq G (λu3 wb1 kA sb1 _=>?_);replace hq:=hq.le sb1.le;replace mu:=mu.le q0 sb1.le;replace hM:=sb1.lt hM;have:=S.size;replace S:=S.aw sb1;refine Rg.bA G G (T.aQ ?_);refine aD (A:=RT.pa) (B:=((RT.int .i64).sl)) bJ G G iJ q0 pa0 G G q0 mu bY (λu10 Vh=>?_);refine bE ah G G G G G Vh bY (λv11 age=>?_);refine aD (A:=RT.pa) (B:=((RT.int .i64).sl)) bJ G G iJ q0 pa0 G G q0 kA bY (λu12 ab0=>?_);refine bE ah G G G G G ab0 bY (λN2 yW=>?_);refine a8 G G E33 (yM hM age yW) (λr1 wr1 hc=>?_);obtain⟨rfl,sr1⟩:=hc;replace mu:=mu.le q0 sr1.le;replace kA:=kA.le q0 sr1.le;replace hM:=sr1.lt hM;have:=S.size;replace S:=S.aw sr1;refine Rg.bA G G (T.aQ ?_);refine aD (A:=RT.pa) (B:=((RT.int .i64).sl)) bJ G G iJ q0 Vv G G q0 mu bY (λu20 arB=>?_);refine bE ah G G G G G arB bY (λv21 arC=>?_);refine aD (A:=RT.pa) (B:=((RT.int .i64).sl)) bJ G G iJ q0 Vv G G q0 kA bY (λu22 arD=>?_);refine bE ah G G G G G arD bY (λv23 Ti=>?_);refine a8 G G E33 (yM hM arC Ti) (λr2 wr2 hc=>?_);obtain⟨rfl,sr2⟩:=hc;replace mu:=mu.le q0 sr2.le;replace kA:=kA.le q0 sr2.le;replace hM:=sr2.lt hM;have:=S.size;replace S:=S.aw sr2;refine Rg.bA G G (T.aQ ?_)
 refine aD (A:=RT.pa) (B:=(RT.str.sl)) bJ G G qM q0 pa2 G G q0 mu bY (λu30 arE=>?_);refine bE az G G G G G arE bY (λv31 arF=>?_);refine aD (A:=RT.pa) (B:=(RT.str.sl)) bJ G G qM q0 pa2 G G q0 kA bY (λu32 arG=>?_);refine bE az G G G G G arG bY (λv33 arH=>?_);refine a8 G G E74 (KK _ hM arF arH) (λr3 wr3 hc=>?_);obtain⟨rfl,sr3⟩:=hc;replace mu:=mu.le q0 sr3.le;replace kA:=kA.le q0 sr3.le;replace hM:=sr3.lt hM;have:=S.size;replace S:=S.aw sr3;refine Rg.bA G G (aI (T.aQ (ab G G (kU G G (bc (v':= .bool (decide (p.1≠q.1))) (by simp) (ab G G ?_))))));refine aW (g:=27) G (λkM=>?_) (λkM=>?_)
 ·refine ao G G G G (ao G G G G (bm G G G (ab G G (ao G G G G (ao G G G G (bm G G G (ab G G (ao G G G G (ao G G G G (ao G G G G (ao G G G G ?_)))))))))));refine ao G G G G (ao G G G G (ao G G G G (bm G G G (ad (kT G (T.aQ (Rg.bA G G (aT ?_))))))))
  first
  |(exact aX rfl rfl ⟨congrArg Value.bool (jz (λe=>c4 af6)).symm,S⟩)
  |(exact aX rfl rfl ⟨congrArg Value.bool (jz (λe=>Ed af6)).symm,S⟩)
  |(exact aX rfl rfl ⟨congrArg Value.bool (jz (λe=>Ht af6)).symm,S⟩)
  |(exact aX rfl rfl ⟨congrArg Value.bool (jz (λe=>kM af6)).symm,S⟩)
 ·refine ak G G (ab G G (ak G G (kU G G (bc (v':= .bool (decide (p.2.1≠q.2.1))) (by simp) (aM G G G (ab G G ?_))))));refine aW (g:=31) G (λHt=>?_) (λHt=>?_)
  ·refine ao G G G G (ao G G G G (bm G G G (ab G G (ao G G G G (ao G G G G (ao G G G G (ao G G G G (ao G G G G (ao G G G G (ao G G G G (bm G G G ?_)))))))))));refine ad (kT G (T.aQ (Rg.bA G G (aT ?_))))
   first
   |(exact aX rfl rfl ⟨congrArg Value.bool (jz (λe=>c4 af6)).symm,S⟩)
   |(exact aX rfl rfl ⟨congrArg Value.bool (jz (λe=>Ed af6)).symm,S⟩)
   |(exact aX rfl rfl ⟨congrArg Value.bool (jz (λe=>Ht af6)).symm,S⟩)
   |(exact aX rfl rfl ⟨congrArg Value.bool (jz (λe=>kM af6)).symm,S⟩)
  ·refine ak G G (ab G G (ak G G (kU G G (bc (v':= .bool (decide (p.2.2.1≠q.2.2.1))) (by simp) (aM G G G (ab G G ?_))))));refine aW (g:=35) G (λEd=>?_) (λEd=>?_)
   ·refine ao G G G G (ao G G G G (ao G G G G (ao G G G G (ao G G G G (ao G G G G (ao G G G G (bm G G G (ad (kT G (T.aQ ?_))))))))));refine Rg.bA G G (aT ?_)
    first
    |(exact aX rfl rfl ⟨congrArg Value.bool (jz (λe=>c4 af6)).symm,S⟩)
    |(exact aX rfl rfl ⟨congrArg Value.bool (jz (λe=>Ed af6)).symm,S⟩)
    |(exact aX rfl rfl ⟨congrArg Value.bool (jz (λe=>Ht af6)).symm,S⟩)
    |(exact aX rfl rfl ⟨congrArg Value.bool (jz (λe=>kM af6)).symm,S⟩)
   ·refine ak G G ?_;refine aD (A:=RT.pa) (B:=(((RT.po).sl).sl)) bJ G G tU q0 XS G G q0 mu bY (λaCK ah1=>?_);refine ak G G ?_;refine bE cH G G G G G ah1 bY (λaCL ah2=>?_);refine ak G G (bK cH G ah2 G (ak G G ?_));refine aD (A:=RT.pa) (B:=(((RT.po).sl).sl)) bJ G G tU q0 XS G G q0 kA bY (λaCM ah3=>?_);refine ak G G ?_;refine bE cH G G G G G ah3 bY (λaCN ah4=>?_);refine ak G G (bK cH G ah4 G (ak G G (fH G G G (aM G G G (ad ?_)))));refine bM G (λc4=>?_) (λc4=>?_)
    ·refine T.aQ (Rg.bA G G (aT ?_))
     first
     |(exact aX rfl rfl ⟨congrArg Value.bool (jz (λe=>c4 af6)).symm,S⟩)
     |(exact aX rfl rfl ⟨congrArg Value.bool (jz (λe=>Ed af6)).symm,S⟩)
     |(exact aX rfl rfl ⟨congrArg Value.bool (jz (λe=>Ht af6)).symm,S⟩)
     |(exact aX rfl rfl ⟨congrArg Value.bool (jz (λe=>kM af6)).symm,S⟩)
    ·have hlen:p.2.2.2.length=q.2.2.2.length:=by omega
     refine aR (aI (T.aQ (Rg.bA G G (aS ?_))));refine dg (σ:=Nat) (λk=>[(2,u2),(3,u3),(8,.int .i64 (k:Int))]) (λk w=>Step M w0 M w aA/\dv RT.pa M w u2 p/\dv RT.pa M w u3 q/\k<=p.2.2.2.length/\p.2.2.2.take k=q.2.2.2.take k) (λk=>p.2.2.2.length-k) 0 a06 ?_ ?_
     ·exact⟨S,mu,kA,bC _,G⟩
     ·clear S mu kA hM;rintro k w ⟨S,mu,kA,hk,heq⟩;have hM:=S.lt ir;refine aI (T.aQ (ab G G ?_));refine aD (A:=RT.pa) (B:=(((RT.po).sl).sl)) bJ G G tU q0 XS G G q0 mu bY (λu71 arI=>?_);refine bE cH G G G G G arI bY (λv72 ah5=>?_);have hln:=dZ ah5;refine bK cH G ah5 G (ch G G G (ad ?_));refine bM G (λc7=>?_) (λc7=>?_)
      ·refine aR (aI (aS (aI ?_)));apply T.AO 10 mixed rfl rfl rfl rfl rfl;intro Uv Yi;have Cx:=Yi M;replace mu:=mu.le q0 Cx.le;replace kA:=kA.le q0 Cx.le;replace hM:=Cx.lt hM;have:=S.size;replace S:=S.aw Cx;obtain⟨x,LL⟩:∃x,p.2.2.2[k]? =some x:=⟨_,al k3⟩;obtain⟨y,GC⟩:∃y,q.2.2.2[k]? =some y:=⟨_,al k3⟩;refine aD (A:=RT.pa) (B:=(((RT.po).sl).sl)) bJ G G tU q0 XS G G q0 mu bY (λu90 arJ=>?_);refine Rg.bL ?_;refine bE cH G G G G G arJ bY (λv91 arK=>?_);refine Rg.bL (ab G G (Rg.bL ?_));refine bX cH wK G G G arK bY k3 (λu93 x_ eo Af=>?_);rw[an]at eo;obtain rfl:=ar (LL.symm.trans eo);refine Rg.bL ?_;refine bE bu G G G G G Af bY (λv94 abX=>?_);refine Rg.bL ?_;refine aD (A:=RT.pa) (B:=(((RT.po).sl).sl)) bJ G G tU q0 XS G G q0 kA bY (λu95 abS=>?_);refine Rg.bL ?_;refine bE cH G G G G G abS bY (λv96 abT=>?_);refine Rg.bL (ab G G (Rg.bL ?_));refine bX cH wK G G G abT bY k3 (λu98 x_ eo arL=>?_);rw[an]at eo;obtain rfl:=ar (GC.symm.trans eo);refine Rg.bL ?_;refine bE bu G G G G G arL bY (λv99 arM=>?_);refine Rg.bL (dD ?_);refine a8 G G E75 (KI hM abX arM) (λr9 w9 hc=>?_);obtain⟨rfl,s9⟩:=hc;replace mu:=mu.le q0 s9.le;replace kA:=kA.le q0 s9.le;replace hM:=s9.lt hM;have:=S.size;replace S:=S.aw s9;refine Rg.bA G G (T.aQ (ab G G (kU G G (bc (v':= .bool (decide (x≠y))) (by simp) (ad ?_)))));refine bM G (λU9=>?_) (λU9=>?_)
       ·refine T.aQ (Rg.bA G G (aT ?_));exact aX rfl rfl ⟨congrArg Value.bool (jz (λe=>by subst e;rw[LL]at GC;cases GC;exact U9 G)).symm,S⟩
       ·refine aR (aH (ab G G (bG G G G k3 (Rg.bA G G ?_))));refine⟨G,k+1,a06,?_,?_⟩
        ·exact⟨S,mu,kA,by omega,by rw[bB,bB,heq,LL,GC,dj.1 U9]⟩
        ·omega
      ·refine cO (T.aQ (Rg.bA G G (aT ?_)));rw[aL k3,aL k3]at heq;exact aX G G ⟨congrArg Value.bool (Ih.2 (vP (dj.1 kM) (vP (dj.1 Ht) (vP (dj.1 Ed) heq)))).symm,S⟩
end Go.K
namespace Go.K
theorem Wx {P:Program} {L:Sl} {w:World} {fn:Func} {Q:Value->World->Prop} {c t b D:Nat} {vs:List Value} {fs:TypeDesc} {e:TypeId} {fr:Nat×Nat} {zv:Value} {size bytes:Nat} (hr:fn.results= #[.cell c t]) (hc:lk L c=some (.pointer (some ⟨b,0,none⟩))) (hu:P.underlying t=some fs) (hf:fs.isRow=true) (hi:TI P t zv size bytes) (hl:vs.length=size)
  (hD:w.heap[D]? =some (.deferred (some []))) (hb:(w.putObj D (.deferred none)).heap[b]? =some (.cells vs.toArray e fr)) (h:Q (.agg vs.toArray) (w.putObj D (.deferred none))):Gd P fn Q .ret L [mark D] w:=
 ⟨_,yr hD,λa ha=>⟨_,by
  obtain⟨i,zf,_,Al,_⟩:=hi.get;have I8:(w.putObj D (.deferred none)).rangeAt b 0 vs:=λj v hj=>gA hb a68
  have:=run_loadVar_mid (P:=P) (w.putObj D (.deferred none)) b 0 t vs fs I8 hu hf aj7;simp[results,hr,ha _ _ hc,asAddr,this,cA],h⟩⟩
theorem Tq {α:Type} {A:RT α} {hn:0<A.n} (hA:C5 A) {M:aJ} {w:World} {xs:List α} {v:Value} {b:Nat} {cs:Array Value} {e:TypeId} {fr:Nat×Nat} (hb:w.heap[b]? =some (.cells cs e fr)) (fG:∀M w x vs,A.R M w x vs->∃c r,vs=c::r/\∀j:Nat,cs[j]? ≠some c) (h:(A.sl hn).V M w xs v):(A.sl hn).V (ins M b) w xs v:=by
 obtain⟨a,cap,h1,h2,h3,hs⟩:=jg.1 h;refine jg.2 ⟨a,cap,h1,h2,h3,?_⟩;rcases hs with hs|⟨b',o,ha,hm,he⟩
 ·exact .inl hs
 ·cases xs with
  |nil=>exact .inl rfl
  |cons x xs=>
   refine .inr ⟨b',o,ha,?_,λi y hy=>by obtain⟨vs,h4,h5⟩:=he i y hy;exact⟨vs,hA _ _ _ _ _ _ h4,h5⟩⟩;rintro(rfl|yd)
   ·obtain⟨vs,h4,h5⟩:=he 0 x rfl;obtain⟨c,r,rfl,hc⟩:=fG _ _ _ _ h4;have:=h5 0 c rfl;simp[World.cell?,hb]at this;exact hc _ this
   ·exact hm yd
open Go.Proofs
namespace TKSegK
theorem tU:TI Tryz.prog 58 (.slice none 0 0) 1 24:=by unfold TI;kernel_rfl
theorem E4:TI Tryz.prog 72 (.agg #[(.slice none 0 0),(.slice none 0 0),(.slice none 0 0),(.slice none 0 0)]) 4 96:=by unfold TI;kernel_rfl
theorem wK:TI Tryz.prog 80 (.slice none 0 0) 1 24:=by unfold TI;kernel_rfl
theorem Hz:TI Tryz.prog 139 (.pointer none) 1 8:=by unfold TI;kernel_rfl
theorem B72:placesOf Tryz.prog 72=[(0,1),(1,1),(2,1),(3,1)].map some:=by kernel_rfl
theorem VL:Enters Tryz.prog 51:=enters Tryz.func51 rfl q0
theorem E76:Enters Tryz.prog 76:=enters Tryz.func76 rfl q0
theorem E77:Enters Tryz.prog 77:=enters Tryz.func77 rfl q0
theorem E78:Enters Tryz.prog 78:=enters Tryz.func78 rfl q0
theorem abp:Enters Tryz.prog 123:=enters Tryz.func123 rfl q0
end TKSegK
open TKSegK
set_option maxRecDepth 10000
structure Tt {α:Type} (A:RT α) (e T:TypeId) (X:aJ->World->Prop) (F:Value->Array Value) (M:aJ) (w0:World) (bo bi bd D:Nat) (vd:Value) (st:Loop) (vo:Value) (xs:List α) (M':aJ) (w:World):Prop where
 lt:Lt M' w
 S:Step M w0 M' w aA
 o:w.heap[bo]? =some (.cells (F vo) T (0,0))
 mo:M' bo
 r:w.heap[D+1]? =some (.loop st)
 mr:M' (D+1)
 d:w.heap[D]? =some (.deferred (some []))
 md:M' D
 own:Own A e M' w w0.heap.size vo xs
 gi:w.heap[bi]? =some (.cells #[.int .i64 0] 3 (0,0))
 gd:w.heap[bd]? =some (.cells #[vd] 139 (0,0))
 fi: ¬M' bi
 fd: ¬M' bd
 z:w0.heap.size<=bo/\w0.heap.size<=D
 k:X M' w
section
variable {α:Type} {A:RT α} {e T:TypeId} {X:aJ->World->Prop} {F:Value->Array Value} {M M1 M2 N:aJ} {w0 w w':World} {bo bi bd D:Nat} {vd:Value} {st:Loop} {vo:Value} {xs:List α}
theorem Tt.aE (hX:∀{M w M' w'},X M w->Le M w M' w'→X M' w') (h:Tt A e T X F M w0 bo bi bd D vd st vo xs M1 w) (s:Step M1 w M2 w' aA):Tt A e T X F M w0 bo bi bd D vd st vo xs M2 w':=
 ⟨s.lt h.lt,h.S.aw s,s.aP h.o,(s.mem _ (ae h.o)).2 h.mo,s.aP h.r,(s.mem _ (ae h.r)).2 h.mr,s.aP h.d,(s.mem _ (ae h.d)).2 h.md,h.own.aE s,s.aP h.gi,s.aP h.gd,λhn=>h.fi ((s.mem _ (ae h.gi)).1 hn),λhn=>h.fd ((s.mem _ (ae h.gd)).1 hn),h.z,hX h.k s.le⟩
theorem Tt.oP {st':Loop} (hX:∀{M w M' w'},X M w->Le M w M' w'→X M' w') (h:Tt A e T X F M w0 bo bi bd D vd st vo xs M1 w):Tt A e T X F M w0 bo bi bd D vd st' vo xs M1 (w.putObj (D+1) (.loop st')):=by
 have s:Step M1 w M1 (w.putObj (D+1) (.loop st')) (λk=>k=D+1):=eO h.mr;obtain⟨z1,z2⟩:=h.z;refine⟨s.lt h.lt,h.S.cL s (λk (hk:k=D+1)=>by omega),s.keep h.o (fun(hn:bo=D+1)=>by have h1:=h.o;rw[hn,h.r]at h1;cases h1),h.mo,zP (ae h.r),h.mr,s.keep h.d (fun(hn:D=D+1)=>by omega),h.md,h.own.step s (λb hb (hn:b=D+1)=>?_),s.keep h.gi (fun(hn:bi=D+1)=>by have h1:=h.gi;rw[hn,h.r]at h1;cases h1),s.keep h.gd (fun(hn:bd=D+1)=>by have h1:=h.gd;rw[hn,h.r]at h1;cases h1),h.fi,h.fd,h.z,hX h.k s.le⟩;obtain⟨cs,hc⟩:=h.own.isCells hb;rw[hn,h.r]at hc;cases hc
theorem Tt.grow {Ki:Value} {Sj:List α} (hX:∀{M w M' w'},X M w->Le M w M' w'→X M' w') (hT:T≠e) (h:Tt A e T X F M w0 bo bi bd D vd st vo xs M1 w) (s:Step M1 w M2 w' (gy vo)) (ho:Own A e M2 w' w0.heap.size Ki Sj):
  (w'.heap[bo]? =some (.cells (F vo) T (0,0))/\M2 bo)/\∀{w2:World},Step M2 w' M2 w2 (λk=>k=bo)->w2.heap[bo]? =some (.cells (F Ki) T (0,0))->Tt A e T X F M w0 bo bi bd D vd st Ki Sj M2 w2:=by
 obtain⟨z1,z2⟩:=h.z
 have BS:∀{b:Nat} {o:Obj},w.heap[b]? =some o->(∀cs fr,o≠ .cells cs e fr)->¬gy vo b:=λ{b o} hb fG hn=>by
  obtain⟨⟨C,h1,_⟩,_⟩:=h.own;rcases h1.2 with h3|⟨g,cap,cur,h3,h4,h5,_⟩
  ·unfold gy at hn;rw[h3.1]at hn;cases hn
  ·unfold gy at hn;rw[h3]at hn;cases hn;rw[hb]at h5;exact fG _ _ (ar h5)
 have nM:∀{b:Nat},¬M1 b->¬gy vo b:=λhb hn=>hb (h.own.mut_ _ hn)
 have ig:=s.keep h.o (BS h.o (λcs fr hc=>by injection hc with _ h1 _;exact hT h1));have hr:=s.keep h.r (BS h.r (λcs fr hc=>by cases hc));have hd:=s.keep h.d (BS h.d (λcs fr hc=>by cases hc));have ke:=s.keep h.gi (nM h.fi);have px:=s.keep h.gd (nM h.fd);have V4: ¬M2 bi:=λhn=>h.fi ((s.mem _ (ae h.gi)).1 hn)
 have Ph: ¬M2 bd:=λhn=>h.fd ((s.mem _ (ae h.gd)).1 hn)
 have JQ:=(s.mem _ (ae h.o)).2 h.mo;refine⟨⟨ig,JQ⟩,λ{w2} s2 hx=>⟨s2.lt (s.lt h.lt),(h.S.cC s h.own (aN _)).cL s2 (λk (hk:k=bo)=>by omega),hx,JQ,s2.keep hr (fun(hn:D+1=bo)=>by rw[hn,ig]at hr;cases hr),(s.mem _ (ae h.r)).2 h.mr,s2.keep hd (fun(hn:D=bo)=>by rw[hn,ig]at hd;cases hd),(s.mem _ (ae h.d)).2 h.md,ho.step s2 (λb hb (hn:b=bo)=>ho.eu ig hT (by rw[<-hn];exact hb)),s2.keep ke (fun(hn:bi=bo)=>V4 (by rw[hn];exact JQ)),s2.keep px (fun(hn:bd=bo)=>Ph (by rw[hn];exact JQ)),V4,Ph,h.z,hX (hX h.k s.le) s2.le⟩⟩
end
theorem arO {α:Type} {A:RT α} {e T:TypeId} {X:aJ->World->Prop} {F:Value->Array Value} (hX:∀{M w M' w'},X M w->Le M w M' w'→X M' w') {M M1:aJ} {w0 w:World} {bo bi bd:Nat} {vd:Value} {st:Loop} (hk:X M1 w) (hM:Lt M1 w) (S:Step M w0 M1 w aA) (go:w.heap[bo]? =some (.cells (F (.slice none 0 0)) T (0,0))) (mo:M1 bo) (gi:w.heap[bi]? =some (.cells #[.int .i64 0] 3 (0,0))) (gd:w.heap[bd]? =some (.cells #[vd] 139 (0,0))) (fi: ¬M1 bi) (fd: ¬M1 bd) (Kb:w0.heap.size<=bo):
  ∃M',Tt A e T X F M w0 bo bi bd w.heap.size vd st (.slice none 0 0) [] M' ((w.alloc (.deferred (some []))).alloc (.loop st)):=by
 have sA:Step M1 w (ins M1 w.heap.size) (w.alloc (.deferred (some []))) aA:=(dK M1 w _).own (aN _) (by simp);have sB:Step (ins M1 w.heap.size) (w.alloc (.deferred (some []))) (ins (ins M1 w.heap.size) (w.heap.size+1)) ((w.alloc (.deferred (some []))).alloc (.loop st)) aA:=(dK _ _ _).own (by simp) (by simp);have hD:(w.alloc (.deferred (some []))).heap[w.heap.size]? =some (.deferred (some [])):=de w _;have hR:((w.alloc (.deferred (some []))).alloc (.loop st)).heap[w.heap.size+1]? =some (.loop st):=by have:=de (w.alloc (.deferred (some []))) (.loop st);rwa [CD]at this
 have SS:=(S.aw sA).aw sB;have hi:=ae gi;have hd:=ae gd;refine⟨_,sB.lt (sA.lt hM),SS,sB.aP (sA.aP go),.inr (.inr mo),hR,.inl G,sB.aP hD,.inr (.inl G),dh _ _ _ _ _,sB.aP (sA.aP gi),sB.aP (sA.aP gd),?_,?_,⟨Kb,S.size⟩,hX (hX hk sA.le) sB.le⟩
 ·rintro(h|h|h)
  ·omega
  ·omega
  ·exact fi h
 ·rintro(h|h|h)
  ·omega
  ·omega
  ·exact fd h
theorem Le.out {MQ M':aJ} {wQ w:World} (h:Le MQ wQ M' w):Le (λb=>MQ b\/wQ.heap.size<=b) w M' w:=λb _ hm=>⟨(h b (Nat.lt_of_not_le λhh=>hm (.inr hh)) (λhh=>hm (.inl hh))).1,rfl⟩
theorem Le.fixed {MQ M':aJ} {wQ w:World} (h:Le MQ wQ M' w):Le (λb=>MQ b\/wQ.heap.size<=b) wQ (λb=>MQ b\/wQ.heap.size<=b) w:=λb hb hm=>⟨hm,(h b hb (λhh=>hm (.inl hh))).2⟩
theorem Le.wide (MQ:aJ) (wQ:World):Le MQ wQ (λb=>MQ b\/wQ.heap.size<=b) wQ:=λb hb hm=>⟨λhh=>hh.elim hm (λh=>by omega),rfl⟩
def ME (s:Se) (va vb vc:Value) (MQ:aJ) (wQ:World) (M:aJ) (w:World):Prop:=((RT.int .i64).sl).V M w s.1 va/\((RT.int .i64).sl).V M w s.2.1 vb/\(RT.str.sl).V M w s.2.2.1 vc/\Le MQ wQ M w
theorem ME.le {s:Se} {va vb vc:Value} {MQ:aJ} {wQ:World}:∀{M:aJ} {w:World} {M':aJ} {w':World},ME s va vb vc MQ wQ M w->Le M w M' w'→ME s va vb vc MQ wQ M' w':=λh l=>⟨h.1.le l,h.2.1.le l,h.2.2.1.le l,h.2.2.2.trans l⟩
theorem Ij {M:aJ} {s:Se} {ls:List (List Po)} {v0:Value} (w0:World) (hM:Lt M w0) (hs:dv RT.se M w0 v0 s) (hls:s.2.2.2=ls.map pJ) (hdl:s.2.2.1.length=ls.length) (hn1:s.1.length<=1000000) (hn2:s.2.1.length<=1000000) (hd6:s.2.2.1.length<=1000000000) (hok:∀l∈ls,ik (-1) l=true/\(∀p∈l,p.2.length<=1099511627776)/\(eY (-1) l).length<=1099511627776/\l.length<=1099511627776):
  Spec Tryz.prog 32 #[v0] w0 (λv w=>RT.pa.V M w (s.1,s.2.1,s.2.2.1,ls) v/\Step M w0 M w aA):=by
 have ir:=hM;refine qf (args:=[_]) (fn:=Tryz.f32) Tryz.func32 G (n:=37) Tryz.ntmps32 ?_;have S:Step M w0 M w0 aA:=bz;refine T.aQ ?_;refine eA M E4 G (λj5 fw V2 V3 jV nz=>?_);obtain⟨hY,tV⟩:∃M',M'=ins M j5:=⟨_,rfl⟩;rw[<-tV]at nz;have jF:hY j5:=by rw[tV];exact .inl G
 change fw.heap[j5]? =some (.cells #[.slice none 0 0,.slice none 0 0,.slice none 0 0,.slice none 0 0] _ _)at jV;replace hM:=nz.lt hM;have:=S.size;replace S:=S.aw nz;refine ad (aI ?_);have YH:=hM;have hsA:dv RT.se hY fw v0 s:=hs.le q0 nz.le;apply T.Dt (M:=hY) mixed [] [cM.eq _,cM.eq v0,cM.ptr (((RT.int .i64).sl)) s.1,cM.V ((RT.int .i64).sl) s.1,cM.V ((RT.int .i64).sl) s.1,cM.eq _,cM.eq v0,cM.ptr (((RT.int .i64).sl)) s.2.1,cM.V ((RT.int .i64).sl) s.2.1,cM.V ((RT.int .i64).sl) s.2.1,cM.eq _,cM.eq v0,cM.ptr ((RT.di).ptr) s.2.2,cM.V ((RT.di).ptr) s.2.2,cM.V (RT.str.sl) s.2.2.1,cM.mk' (λv w'=>∃a b c,v= .agg [a,b,c,.slice none 0 0].toArray/\((RT.int .i64).sl).V hY w' s.1 a/\((RT.int .i64).sl).V hY w' s.2.1 b/\(RT.str.sl).V hY w' s.2.2.1 c) (fun⟨a,b,c,h1,h2,h3,h4⟩ s=>⟨a,b,c,h1,h2.le s.le,h3.le s.le,h4.le s.le⟩),cM.mk' (λp w'=>∃bq,p= .pointer (some ⟨bq,0,none⟩)/\fw.heap.size<=bq/\w'.heap[bq]? =some (.cells #[.slice none 0 0,.slice none 0 0,.slice none 0 0,.slice none 0 0] 72 (0,0))) (fun⟨bq,h1,h2,h3⟩ s=>⟨bq,h1,h2,s.aP h3⟩)] 17
 ·rfl
 ·rfl
 ·rfl
 ·rfl
 ·rfl
 ·exact aj3
 ·exact yn.none
 ·refine aO ?_ ?_
  ·intro wD E sD;refine ab G G ?_;exact a01
  refine aO ?_ ?_
  ·intro wD E sD;refine aC (cu G hsA.iZ G ?_);exact a01
  refine aO ?_ ?_
  ·intro wD E sD;refine aC ?_;refine aD (M:=hY) (A:=RT.se) (B:=((RT.int .i64).sl)) j3 G G iJ q0 se0 G G q0 hsA sD.le (λuf tT=>?_);exact a61
  refine aO ?_ ?_
  ·intro wD E sD;intro v2 yz;refine bE ah G G G G G (show dv (((RT.int .i64).sl)) hY wD v2 s.1 from yz) bY (λva ny=>?_);exact ad ⟨G,G,_,G,ny,bz⟩
  refine aO ?_ ?_
  ·intro wD E sD;intro v3 yE;refine a8 G G VL (tR (M:=hY) (sD.lt YH) (show((RT.int .i64).sl).V hY wD s.1 v3 from yE) k3) (λr1 w1 h1=>?_);exact ad ⟨G,G,_,G,h1.1,h1.2⟩
  refine aO ?_ ?_
  ·intro wD E sD;refine ab G G ?_;exact a01
  refine aO ?_ ?_
  ·intro wD E sD;refine aC (cu G hsA.iZ G ?_);exact a01
  refine aO ?_ ?_
  ·intro wD E sD;refine aC ?_;refine aD (M:=hY) (A:=RT.se) (B:=((RT.int .i64).sl)) j3 G G iJ q0 se1 G G q0 hsA sD.le (λuf tT=>?_);exact a61
  refine aO ?_ ?_
  ·intro wD E sD;intro v7 Cw;refine bE ah G G G G G (show dv (((RT.int .i64).sl)) hY wD v7 s.2.1 from Cw) bY (λva ny=>?_);exact ad ⟨G,G,_,G,ny,bz⟩
  refine aO ?_ ?_
  ·intro wD E sD;intro v8 Hf;intro v4 qm;refine a8 G G VL (tR (M:=hY) (sD.lt YH) (show((RT.int .i64).sl).V hY wD s.2.1 v8 from Hf) k3) (λr1 w1 h1=>?_);exact ad ⟨G,G,_,G,h1.1,h1.2⟩
  refine aO ?_ ?_
  ·intro wD E sD;refine ab G G ?_;exact a01
  refine aO ?_ ?_
  ·intro wD E sD;refine aC (cu G hsA.iZ G ?_);exact a01
  refine aO ?_ ?_
  ·intro wD E sD;refine aC ?_;refine aD (M:=hY) (A:=RT.se) (B:=(RT.di).ptr) j3 G G Hz q0 se2 G G q0 hsA sD.le (λuf tT=>?_);exact a61
  refine aO ?_ ?_
  ·intro wD E sD;intro v12 Ik;refine bE iL G G G G G (show dv ((RT.di).ptr) hY wD v12 s.2.2 from Ik) bY (λva ny=>?_);exact ad ⟨G,G,_,G,ny,bz⟩
  refine aO ?_ ?_
  ·intro wD E sD;intro N2 yW;intro v9 Au;refine a8 rfl rfl E76 (BU (M:=hY) _ (sD.lt YH) (oQ.1 (show((RT.di).ptr).V hY wD s.2.2 N2 from yW)) (by rw[hls,ay];exact hdl) hd6) (λr1 w1 h1=>?_);exact ad ⟨G,G,_,G,h1.1,h1.2⟩
  refine aO ?_ ?_
  ·intro wD E sD;intro v4 qm;intro v9 Au;intro v14 OF;refine ie (places:=[(0,1),(1,1),(2,1),(3,1)]) bT E4 B72 rfl ⟨_,_,rfl,rfl,_,_,rfl,rfl,_,_,rfl,rfl,rfl⟩ (out:=[v4,v9,v14,.slice none 0 0]) ⟨0,[_],rfl,jo qm,by simp[Value.cells],1,[_],rfl,jo Au,by simp[Value.cells],2,[_],rfl,jo OF,by simp[Value.cells],rfl⟩ ?_;exact ad ⟨G,G,_,G,⟨v4,v9,v14,G,qm,Au,OF⟩,bz⟩
  refine aO ?_ ?_
  ·intro wD E sD;refine eA hY E4 G (λbq wq e1 e2 e3 s=>?_);exact ad ⟨G,G,_,G,⟨bq,G,eG sD.size e1,e3⟩,s.back⟩
  exact vV
 ·intro II nZ;refine aC (aC ?_);intro Ob so;intro anr XU;intro aqD ahv;refine aC (aC ?_);intro agi X7;intro aCP awM;intro aCQ awN;refine aC (aC ?_);intro awO arP;intro awP arQ;intro awQ arR;intro awR ab2;intro awS ab3;obtain⟨va,vb,vc,rfl,ny,DR,hvc⟩:=ab2;obtain⟨bo,rfl,Kb,gq⟩:=ab3;obtain⟨MP,eMP⟩:∃M',M'=ins hY bo:=⟨_,rfl⟩;have sW:Step hY fw MP II aA:=by rw[eMP];exact nZ.own Kb (ae gq)
  replace ny:((RT.int .i64).sl).V MP II s.1 va:=by rw[eMP];exact Tq (λ_ _ _ _ _ _ h=>h) gq (λM w x vs (h:vs=_/\_)=>⟨_,[],h.1,λj hj=>by rcases j with _|_|_|_|j<;>simp at hj⟩) ny
  replace DR:((RT.int .i64).sl).V MP II s.2.1 vb:=by rw[eMP];exact Tq (λ_ _ _ _ _ _ h=>h) gq (λM w x vs (h:vs=_/\_)=>⟨_,[],h.1,λj hj=>by rcases j with _|_|_|_|j<;>simp at hj⟩) DR
  replace hvc:(RT.str.sl).V MP II s.2.2.1 vc:=by rw[eMP];exact Tq (λ_ _ _ _ _ _ h=>h) gq (λM w x vs (h:vs=_/\_)=>⟨_,[],h.1,λj hj=>by rcases j with _|_|_|_|j<;>simp at hj⟩) hvc
  have mbo:MP bo:=by rw[eMP];exact .inl G
  refine ej (M:=MP) (vs:=[va,vb,vc,.slice none 0 0]) E4 G G (by intro u hu;simp at hu;rcases hu with rfl|rfl|rfl|rfl<;>first|rfl|exact mv W4 rfl rfl) rfl rfl gq mbo (λw17 g17 E3=>?_);replace ny:=ny.le E3.le;replace DR:=DR.le E3.le;replace hvc:=hvc.le E3.le;replace mbo:=(E3.mem _ (ae gq)).2 mbo;have hsQ:dv RT.se MP w17 v0 s:=(hsA.le q0 sW.le).le q0 E3.le;have SA:=S;clear S hM gq;have gq:=g17;have S:Step hY fw MP w17 aA:=sW.cL E3 (λk (hk:k=bo)=>by omega);have hM:=S.lt YH;refine ad (aI (T.aQ (ab G G (cu G hsQ.iZ G ?_))));refine aD (A:=RT.se) (B:=(RT.di).ptr) j3 G G Hz q0 se2 G G q0 hsQ bY (λagD ni=>?_);refine bE iL G G G G G ni bY (λvd hvd=>?_);have hdp:=oQ.1 hvd;refine a8 G G E77 (D0 (M:=MP) _ hM hdp) (λr2 w2 hc=>?_);obtain⟨bi,bd,rfl,gi,gd,P0,hbd,s2⟩:=hc;have fi: ¬MP bi:=λh=>by have:=hM _ h;omega
  have fd: ¬MP bd:=λh=>by have:=hM _ h;omega
  replace hM:=s2.lt hM;have:=S.size;replace S:=S.aw s2;refine ad (aS ?_);refine T.range (gf:=123) (lb:=[.pointer (some ⟨bi,0,none⟩),.pointer (some ⟨bd,0,none⟩)].toArray) G abp (λrec pI=>?_);obtain⟨D,hD⟩:∃D,D=w2.heap.size:=⟨_,rfl⟩;obtain⟨Mr,h0⟩:=arO (A:=(RT.po).sl) (e:=80) (X:=(ME s va vb vc MP w2)) (F:=(λvo=> #[va,vb,vc,vo])) ME.le (st:=rec .ready none) ⟨ny.le s2.le,DR.le s2.le,hvc.le s2.le,bY⟩ hM S (s2.aP gq) ((s2.mem _ (ae gq)).2 mbo) gi gd fi fd Kb;rw[<-hD]at pI h0 ⊢;have Na:dv RT.di (λb=>MP b\/w2.heap.size<=b) w2 vd s.2.2:=(hdp.le q0 s2.le).le q0 (Le.wide MP w2);refine Spec.mono (BR (wv:=w2) (M:=λb=>MP b\/w2.heap.size<=b) (J:=λi w=>∃M' vo,Tt ((RT.po).sl) 80 72 (ME s va vb vc MP w2) (λvo=> #[va,vb,vc,vo]) hY fw bo bi bd D vd (rec .ready none) vo (ls.take i) M' w) (Jx:=λ_=>False) _ Na (by rw[hls,ay];exact hdl) (λi w w' ⟨M',vo,h⟩ s=>⟨M',vo,h.aE ME.le (s.any M')⟩) (λi w ⟨M',vo,h⟩=>⟨h.gi,h.gd,h.k.2.2.2.fixed⟩) (λi wr x t vt hJ hx ht hp=>?_) ⟨Mr,_,h0⟩) (λ_ w3 h3=>?_)
  ·obtain⟨M',vo,h⟩:=hJ;obtain⟨l,Ow,rfl⟩:∃l,ls[i]? =some l/\pJ l=t:=by rw[hls,bj]at ht;exact Option.map_eq_some_iff.1 ht
   have pX:=(aj.1 Ow).1;obtain⟨pg,hrp,hrb,hrl⟩:=hok l (au Ow);refine nW (ps:=[27,28]) (vs:=[sv x,vt]) pI h.r G q0 (aH (Rg.bA G G (⟨G,h.r,?_⟩)));have h4:=h.oP ME.le (st':=rec .busy none);have s4:Step M' wr M' (wr.putObj (D+1) (.loop (rec .busy none))) (λk=>k=D+1):=eO h.mr;have hp4:=(hp.le q0 h.k.2.2.2.out).le q0 s4.le;generalize wr.putObj (D+1) _=w4 at h4 s4 hp4 ⊢;have hM:=h4.lt;have S:=h4.S;refine aS ?_;apply nq 3 [0,1] 2 aA mixed rfl rfl rfl rfl;intro XY VH;have sN:=VH (M');replace hM:=sN.lt hM;have:=S.size;replace S:=S.aw sN;replace h4:=h4.aE ME.le sN;refine bR bT G G tU q0 G G (Rg.bL (aV cH G G G h4.o G (bc (v':=vo) G (Rg.bL (ab G G (Rg.bL (dD (⟨eQ ⟨fk bT G tU q0,⟨dQ G h4.o (λh=>h),trivial⟩⟩,?_⟩))))))));have kp:=fq aA XY;refine a8 G G E78 (Ia h4.lt (hp4.le q0 sN.le) pg hrp hrb hrl) (λr5 w5 hc=>?_);obtain⟨pQ,s5⟩:=hc;replace h4:=h4.aE ME.le s5;refine(fun(kp:eB _ _ _)=>ad ⟨G,G,λ_=>kp,?_⟩) a00;refine dP (A:=(RT.po).sl) (hn:=by decide) (M:=M') cH wK q0 G G h4.lt pQ (.inr ⟨G,G⟩) (λu6 w6 GA s6=>?_);have h6:=h4.aE ME.le s6;refine(fun(kp:eB _ _ _)=>ad ⟨G,G,λ_=>kp,?_⟩) a00;refine cN (M:=M') (base:=fw.heap.size) cH wK rfl rfl rfl rfl h6.own GA bY a03 a03 h6.S.size (λv7 M7 w7 oK s7=>?_);obtain⟨⟨go7,mo7⟩,IX⟩:=h6.grow ME.le q0 s7 oK
   refine ad ⟨G,G,λh=>absurd G h,bR bT G G tU q0 G G (ad ⟨G,G,λh=>absurd G h,?_⟩)⟩;refine cF (M:=M7) tU rfl rfl go7 rfl (by obtain⟨_,_,he,_⟩:=oK.isSlice;rw[he];rfl) mo7 (λw8 g8 s8=>?_);replace g8:w8.heap[bo]? =some (.cells ((λvo=> #[va,vb,vc,vo]) v7) 72 (0,0)):=g8;refine ad ⟨G,G,λh=>absurd G h,iu ?_⟩;have h8:=(IX s8 g8).oP ME.le (st':=rec .ready none);exact⟨(IX s8 g8).r,true,rfl,λ_=>⟨M7,v7,by rw[bB,Ow,bU];exact h8⟩,λh=>by cases h⟩
  ·obtain⟨M',vo,h⟩:=h3.resolve_right id;left;refine ⟨h.r,?_⟩;have h5:=h.oP ME.le (st':=rec .exhausted none);generalize w3.putObj (D+1) _=wE at h5 ⊢;refine T.aQ (gJ (vs:=[va,vb,vc,vo]) bT G E4 G G G h5.o ?_);obtain⟨hka,hkb,Uy,_⟩:=h5.k;obtain⟨_,_,heo,_⟩:=h5.own.isSlice;have gR:=h5.S.aP jV;have mR:=(h5.S.mem _ (ae jV)).2 jF;refine ej (M:=M') (vs:=[va,vb,vc,vo]) E4 G G (by intro u hu;simp at hu;rcases hu with rfl|rfl|rfl|rfl<;>first|exact mv W4 rfl rfl|(rw[heo];rfl)) rfl rfl gR mR (λwF gF sF=>?_);refine ad (aT ?_);have hDF:=sF.keep h5.d (fun(hn:D=j5)=>by have h1:=h5.d;rw[hn,gR]at h1;cases h1);have sZ:Step M' wF M' (wF.putObj D (.deferred none)) (λk=>k=D):=eO h5.md;have hz:=h5.z;have Fq:=SA.size;have SS:=((SA.aw h5.S).cL sF (λk (hk:k=j5)=>by omega)).cL sZ (λk (hk:k=D)=>by omega)
   have ho:=(h5.own.step sF (λb hb (hn:b=j5)=>h5.own.eu gR q0 (hn▸hb))).step sZ (λb hb (hn:b=D)=>by
    obtain⟨cs,hc⟩:=h5.own.isCells hb;rw[hn,h5.d]at hc;cases hc)
   rw[aL (Nat.le_of_eq hdl.symm)]at ho;have Xi:ls.length<=1000000000:=by omega
   have lc:=(sF.le.trans sZ.le).trans (CC ir SS);refine Wx (vs:=[va,vb,vc,vo]) rfl rfl bT rfl E4 rfl hDF (sZ.keep gF (fun(hn:j5=D)=>by rw[hn,h5.d]at gR;cases gR)) ⟨NX (x:=(s.1,s.2.1,s.2.2.1,ls)) (hka.le lc) (hkb.le lc) (Uy.le lc) (gT (hn:=by decide) ir SS (ho.kj k3) (by show ls.length<=_;omega)),SS.back⟩
end Go.K
namespace Go.K
open Go.Proofs
namespace TKSegM
theorem tU:TI Tryz.prog 58 (.slice none 0 0) 1 24:=by unfold TI;kernel_rfl
theorem E4:TI Tryz.prog 72 (.agg #[(.slice none 0 0),(.slice none 0 0),(.slice none 0 0),(.slice none 0 0)]) 4 96:=by unfold TI;kernel_rfl
theorem E32:Enters Tryz.prog 32:=enters Tryz.func32 rfl q0
end TKSegM
open TKSegM
set_option maxRecDepth 10000
structure ab4 (s:Se) (ls:List (List Po)):Prop where
 hls:s.2.2.2=ls.map pJ
 hdl:s.2.2.1.length=ls.length
 hn1:s.1.length<=1000000
 hn2:s.2.1.length<=1000000
 hd6:s.2.2.1.length<=1000000000
 hok:∀l∈ls,ik (-1) l=true/\(∀p∈l,p.2.length<=1099511627776)/\(eY (-1) l).length<=1099511627776/\l.length<=1099511627776
def partsOf (s:Se) (ls:List (List Po)):Pa:=(s.1,s.2.1,s.2.2.1,ls)
end Go.K
namespace Go.K
open Go.Proofs
namespace TKSegN
theorem tU:TI Tryz.prog 58 (.slice none 0 0) 1 24:=by unfold TI;kernel_rfl
theorem xW:TI Tryz.prog 60 (.agg #[(.slice none 0 0),(.slice none 0 0),(.slice none 0 0),(.slice none 0 0)]) 4 96:=by unfold TI;kernel_rfl
theorem wK:TI Tryz.prog 80 (.slice none 0 0) 1 24:=by unfold TI;kernel_rfl
theorem E69:Enters Tryz.prog 69:=enters Tryz.func69 rfl q0
theorem E70:Enters Tryz.prog 70:=enters Tryz.func70 rfl q0
end TKSegN
open TKSegN
set_option maxRecDepth 10000
theorem Fs {M:aJ} {L:List En} {v0:Value} (w0:World) (hM:Lt M w0) (hv:(RT.en.sl).V M w0 L v0) (hF:∀e∈L,ky e.1) (hlen:∀e∈L,∀f∈e.1.2,f.1.length<=900000/\f.2.length<=900000) (hn:L.length<=100000):
  Spec Tryz.prog 28 #[v0] w0 (λv w=>RT.pa.V M w (fa L) v/\Step M w0 M w aA):=by
 have ir:=hM
 have FR:(keysOf L).length<=500000000:=by
  have h1:=(lD L).nodup.length_le_of_subset (l₂:=jb L) (λx hx=>ka.1 hx);have:=mK hF;omega
 refine bF (args:=[_]) (fn:=Tryz.f28) Tryz.func28 G (n:=56) Tryz.ntmps28 ?_;have S:Step M w0 M w0 aA:=bz;refine T.aQ ?_;refine eA M xW G (λj5 fw V2 V3 jV nz=>?_);obtain⟨MA,eMA⟩:∃M',M'=ins M j5:=⟨_,rfl⟩;rw[<-eMA]at nz;have jF:MA j5:=by rw[eMA];exact .inl G
 replace hv:=hv.le nz.le;have YH:=nz.lt hM;have SA:=S.aw nz;clear hM S;have hM:=YH;have S:Step MA fw MA fw aA:=bz;refine ad (T.aQ ?_);refine eA MA xW G (λeW zZ Qk Ql kn lz=>?_);obtain⟨lR,kJ⟩:∃M',M'=ins MA eW:=⟨_,rfl⟩;rw[<-kJ]at lz;have iP:lR eW:=by rw[kJ];exact .inl G
 change zZ.heap[eW]? =some (.cells #[.slice none 0 0,.slice none 0 0,.slice none 0 0,.slice none 0 0] _ _)at kn;replace hv:=hv.le lz.le;replace hM:=lz.lt hM;have:=S.size;replace S:=S.aw lz;refine ad (aI (T.aQ (Rg.bA G G (aS ?_))));refine dg (σ:=Nat×Value×Value) (λq=>[(0,v0),(2,.pointer (some ⟨j5,0,none⟩)),(3,.pointer (some ⟨eW,0,none⟩)),(4,.int .i64 (q.1:Int))]) (λq w=>∃M',Lt M' w/\Step MA fw M' w aA/\(RT.en.sl).V M' w L v0/\w.heap[eW]? =some (.cells #[q.2.1,q.2.2,.slice none 0 0,.slice none 0 0] 60 (0,0))/\M' eW/\Own (RT.int .i64) 3 M' w fw.heap.size q.2.1 ((L.take q.1).map (·.1.1))/\Own (RT.int .i64) 3 M' w fw.heap.size q.2.2 ((L.take q.1).map (·.2))/\fL q.2.1 q.2.2/\q.1<=L.length) (λq=>L.length-q.1) (0,.slice none 0 0,.slice none 0 0) Y7 ?_ ?_
 ·exact⟨_,hM,S,hv,kn,iP,dh _ _ _ _ _,dh _ _ _ _ _,fL.nil _,bC _⟩
 ·clear hM S hv;rintro⟨i,vi,vs⟩ w ⟨M2,hM,S,hv,g2,dx,dB,fV,qt,hi⟩;dsimp only at g2 dB fV qt hi ⊢;refine aI (T.aQ (ab G G (ab G G (bK dp G hv G (ch G G G (ad ?_))))));refine bM G (λc3=>?_) (λc3=>?_)
  ·refine aR (aI (aS (aI ?_)));apply nq 8 [0,1] 1 aA mixed rfl rfl rfl rfl;intro wD5 sA5;have yK:=sA5 M2;have:=ae g2;replace dx:=(yK.mem _ this).2 dx;replace g2:=yK.aP g2;replace hv:=hv.le yK.le;replace dB:=dB.aE yK;replace fV:=fV.aE yK;replace hM:=yK.lt hM;have:=S.size;replace S:=S.aw yK;refine bR (o':=0) bJ G G iJ q0 G G (Rg.bL (aV ah G G G (by first|assumption|exact dE yK W4) G (Rg.bL (ab G G (Rg.bL (ab G G (Rg.bL ?_)))))));obtain⟨e,kR⟩:∃x,L[i]? =some x:=⟨_,al k3⟩;refine bX dp A3 G G G hv bY k3 (λu54 x_ eo Sw=>?_);rw[an]at eo;obtain rfl:=ar (kR.symm.trans eo);refine Rg.bL ?_;refine aD (A:=RT.en) (B:=RT.dc) dH G G nY q0 Ve G G q0 Sw bY (λu55 abR=>?_);refine Rg.bL ?_;refine aD (A:=RT.dc) (B:=RT.int .i64) bg G G I3 q0 dc0 G G q0 abR bY (λu56 arW=>?_);refine Rg.bL ?_;refine bV aq G G arW bY (λaia=>?_);refine bc (v':= .int .i64 e.1.1) G (Rg.bL (dD (⟨eQ ⟨fk bJ G iJ q0,⟨dQ G g2 (λh=>h),trivial⟩⟩,?_⟩)));have kp:=fq aA wD5;refine dP (A:=RT.int .i64) (hn:=by decide) (M:=M2) ah I3 q0 G G hM (gw (x:=e.1.1) aia) (.inr ⟨G,G⟩) (λafV an3 aib xI=>?_);have:=ae g2;replace dx:=(xI.mem _ this).2 dx;replace g2:=xI.aP g2;replace hv:=hv.le xI.le;replace dB:=dB.aE xI;replace fV:=fV.aE xI;replace hM:=xI.lt hM;have:=S.size;replace S:=S.aw xI;refine(fun(kp:eB _ _ _)=>ad ⟨G,G,λ_=>kp,?_⟩) a00
   refine fI (M:=M2) (base:=fw.heap.size) ah I3 rfl rfl rfl rfl dB aib bY a03 a03 S.size (λv5 w5 ho5 s5 hF5=>?_);generalize ji M2 v5=M5 at ho5 s5;have aic:fL v5 vs:=qt.grown hF5 (λb hb=>(fV.base b hb).2);replace fV:=fV.step s5 (λb hb h=>qt b h hb);replace dx:=(s5.mem _ (ae g2)).2 dx;replace g2:=s5.keep g2 (λh=>dB.eu g2 q0 h);replace hv:=hv.le s5.le;replace S:=S.cC s5 dB (aN _);replace hM:=s5.lt hM;replace dB:=ho5;refine ad ⟨G,G,λh=>absurd G h,bR (o':=0) bJ G G iJ q0 G G (ad ⟨G,G,λh=>absurd G h,?_⟩)⟩;refine cF (M:=M5) iJ rfl rfl g2 rfl ad5 dx (λaid YI Ce=>?_);change aid.heap[_]? =some (Obj.cells #[v5,vs,.slice none 0 0,.slice none 0 0] _ _)at YI;have:=ae g2;replace dx:=(Ce.mem _ this).2 dx;replace hv:=hv.le Ce.le;replace dB:=dB.step Ce (λc hc (h:c=eW)=>dB.eu g2 q0 (h▸hc));replace fV:=fV.step Ce (λc hc (h:c=eW)=>fV.eu g2 q0 (h▸hc));replace hM:=Ce.lt hM;have:=S.size;replace S:=S.trans Ce (λk hk h=>by have h:_=_:=h;subst h;first|(exfalso;omega)|(show _<=_;omega)|exact⟨by first|omega|assumption,(S.mem _ hk).1 ((Ce.mem _ (ae g2)).1 dx)⟩|exact .inl rfl|exact .inr rfl|exact .inr (.inl rfl)|exact .inr (.inr rfl)|exact .inr (.inr (.inl rfl))|exact rfl);have Bt:=YI;clear g2;have g2:=Bt;clear Bt;refine ad ⟨G,G,λh=>absurd G h,iu ?_⟩;apply nq 7 [0,1] 1 aA mixed rfl rfl rfl rfl;intro X5 V9;have o6:=V9 M5;have:=ae g2;replace dx:=(o6.mem _ this).2 dx;replace g2:=o6.aP g2;replace hv:=hv.le o6.le;replace dB:=dB.aE o6;replace fV:=fV.aE o6;replace hM:=o6.lt hM;have:=S.size;replace S:=S.aw o6;refine bR (o':=1) bJ G G iJ q0 G G (Rg.bL (aV ah G G G (by first|assumption|exact dE o6 W4) G (Rg.bL (ab G G (Rg.bL (ab G G (Rg.bL ?_)))))))
   refine bX dp A3 G G G hv bY k3 (λu64 x_ eo Sx=>?_);rw[an]at eo;obtain rfl:=ar (kR.symm.trans eo);refine Rg.bL ?_;refine aD (A:=RT.en) (B:=RT.int .i64) dH G G I3 q0 en1 G G q0 Sx bY (λu65 arX=>?_);refine Rg.bL ?_;refine bV aq G G arX bY (λaie=>?_);refine bc (v':= .int .i64 e.2) G (Rg.bL (dD (⟨eQ ⟨fk bJ G iJ q0,⟨dQ G g2 (λh=>h),trivial⟩⟩,?_⟩)));have kp:=fq aA X5;refine dP (A:=RT.int .i64) (hn:=by decide) (M:=M5) ah I3 q0 G G hM (gw (x:=e.2) aie) (.inr ⟨G,G⟩) (λaC0 aC1 aif KR=>?_);have:=ae g2;replace dx:=(KR.mem _ this).2 dx;replace g2:=KR.aP g2;replace hv:=hv.le KR.le;replace dB:=dB.aE KR;replace fV:=fV.aE KR;replace hM:=KR.lt hM;have:=S.size;replace S:=S.aw KR;refine(fun(kp:eB _ _ _)=>ad ⟨G,G,λ_=>kp,?_⟩) a00;refine fI (M:=M5) (base:=fw.heap.size) ah I3 rfl rfl rfl rfl fV aif bY a03 a03 S.size (λv6 w6 th s6 hF6=>?_);generalize ji M5 v6=M6 at th s6;have JR:fL v5 v6:=(aic.symm.grown hF6 (λb hb=>(dB.base b hb).2)).symm;replace dB:=dB.step s6 (λb hb h=>aic b hb h);replace dx:=(s6.mem _ (ae g2)).2 dx;replace g2:=s6.keep g2 (λh=>fV.eu g2 q0 h);replace hv:=hv.le s6.le;replace S:=S.cC s6 fV (aN _);replace hM:=s6.lt hM;replace fV:=th;refine ad ⟨G,G,λh=>absurd G h,bR (o':=1) bJ G G iJ q0 G G (ad ⟨G,G,λh=>absurd G h,?_⟩)⟩;refine cF (M:=M6) iJ rfl rfl g2 rfl (by obtain⟨_,_,he,_⟩:=fV.isSlice;rw[he];rfl) dx (λYw YJ nk=>?_)
   change Yw.heap[_]? =some (Obj.cells #[v5,v6,.slice none 0 0,.slice none 0 0] _ _)at YJ;have:=ae g2;replace dx:=(nk.mem _ this).2 dx;replace hv:=hv.le nk.le;replace dB:=dB.step nk (λc hc (h:c=eW)=>dB.eu g2 q0 (h▸hc));replace fV:=fV.step nk (λc hc (h:c=eW)=>fV.eu g2 q0 (h▸hc));replace hM:=nk.lt hM;have:=S.size;replace S:=S.trans nk (λk hk h=>by have h:_=_:=h;subst h;first|(exfalso;omega)|(show _<=_;omega)|exact⟨by first|omega|assumption,(S.mem _ hk).1 ((nk.mem _ (ae g2)).1 dx)⟩|exact .inl rfl|exact .inr rfl|exact .inr (.inl rfl)|exact .inr (.inr rfl)|exact .inr (.inr (.inl rfl))|exact rfl);have Bt:=YJ;clear g2;have g2:=Bt;clear Bt;refine ad ⟨G,G,λh=>absurd G h,iu (aH (ab G G (bG G G G k3 (Rg.bA G G ?_))))⟩;have et:L.take (i+1)=L.take i++[e]:=by rw[bB,kR,bU]
   refine⟨G,(i+1,v5,v6),Y7,?_,?_⟩
   ·exact⟨_,hM,S,hv,g2,dx,by rw[et,cG];exact dB,by rw[et,cG];exact fV,JR,by dsimp only;omega⟩
   ·dsimp only;omega
  ·refine cO (T.aQ ?_);have V8:L.take i=L:=aL k3;rw[V8]at dB fV;refine ab G G ?_;refine a8 G G E69 (KO _ hM hv hF hlen k3) (λrk w7 hc=>?_);obtain⟨qx,s7⟩:=hc;have:=ae g2;replace dx:=(s7.mem _ this).2 dx;replace g2:=s7.aP g2;replace hv:=hv.le s7.le;replace dB:=dB.aE s7;replace fV:=fV.aE s7;replace hM:=s7.lt hM;have:=S.size;replace S:=S.aw s7;refine bR (o':=2) bJ G G qM q0 G G ?_;refine cF (M:=M2) qM G G g2 G (mv qx G G) dx (λag0 aih xM=>?_);change ag0.heap[_]? =some (Obj.cells #[vi,vs,rk,.slice none 0 0] _ _)at aih;have:=ae g2;replace dx:=(xM.mem _ this).2 dx;replace hv:=hv.le xM.le;replace qx:=qx.le xM.le;replace dB:=dB.step xM (λc hc (h:c=eW)=>dB.eu g2 q0 (h▸hc));replace fV:=fV.step xM (λc hc (h:c=eW)=>fV.eu g2 q0 (h▸hc));replace hM:=xM.lt hM;have:=S.size;replace S:=S.trans xM (λk hk h=>by have h:_=_:=h;subst h;first|(exfalso;omega)|(show _<=_;omega)|exact⟨by first|omega|assumption,(S.mem _ hk).1 ((xM.mem _ (ae g2)).1 dx)⟩|exact .inl rfl|exact .inr rfl|exact .inr (.inl rfl)|exact .inr (.inr rfl)|exact .inr (.inr (.inl rfl))|exact rfl);have Bt:=aih;clear g2;have g2:=Bt;clear Bt;refine ad (aI (T.aQ (Rg.bA G G (aS ?_))));refine dg (σ:=Nat×Value) (λq=>[(0,v0),(2,.pointer (some ⟨j5,0,none⟩)),(3,.pointer (some ⟨eW,0,none⟩)),(5,.int .i64 (q.1:Int))]) (λq w=>∃M',Lt M' w/\Step MA fw M' w aA/\(RT.en.sl).V M' w L v0/\w.heap[eW]? =some (.cells #[vi,vs,rk,q.2] 60 (0,0))/\M' eW/\Own (RT.int .i64) 3 M' w fw.heap.size vi (L.map (·.1.1))/\Own (RT.int .i64) 3 M' w fw.heap.size vs (L.map (·.2))/\Own ((RT.po).sl) 80 M' w fw.heap.size q.2 (((keysOf L).take q.1).map (pk L))/\(RT.str.sl).V M' w (keysOf L) rk/\q.1<=(keysOf L).length) (λq=>(keysOf L).length-q.1) (0,.slice none 0 0) Y7 ?_ ?_
   ·exact⟨_,hM,S,hv,g2,dx,dB,fV,dh _ _ _ _ _,qx,bC _⟩
   ·clear hM S hv g2 dx dB fV qx;rintro⟨j,vl⟩ w ⟨M3,hM,S,hv,g2,dx,dB,fV,dR,qx,hj⟩;dsimp only at g2 dR hj ⊢;refine aI (T.aQ (ab G G (bR (o':=2) bJ G G qM q0 G G (aV az G G G g2 G (bc (v':=rk) G (bK az G qx G (ch G G G (ad ?_))))))));refine bM G (λc9=>?_) (λc9=>?_)
    ·refine aR (aI (aS ?_));apply nq 8 [0,1] 2 aA mixed rfl rfl rfl rfl;intro EX EY;have gO:=EY M3;have:=ae g2;replace dx:=(gO.mem _ this).2 dx;replace g2:=gO.aP g2;replace hv:=hv.le gO.le;replace qx:=qx.le gO.le;replace dB:=dB.aE gO;replace fV:=fV.aE gO;replace dR:=dR.aE gO;replace hM:=gO.lt hM;have:=S.size;replace S:=S.aw gO;refine bR (o':=3) bJ G G tU q0 G G (Rg.bL (aV cH G G G aj4 G (Rg.bL (ab G G (Rg.bL (bR (o':=2) bJ G G qM q0 G G (Rg.bL (aV az G G G g2 G (bc (v':=rk) G (Rg.bL (ab G G ?_)))))))))));refine Rg.bL ?_;obtain⟨k,hgk⟩:∃x,(keysOf L)[j]? =some x:=⟨_,al k3⟩;refine bX az I9 G G G qx bY k3 (λaC3 x_ eo aii=>?_);rw[an]at eo;obtain rfl:=ar (hgk.symm.trans eo);refine Rg.bL ?_;refine bE aG G G G G G aii bY (λv117 aij=>?_);obtain rfl:=fp aij;refine Rg.bL (dD (⟨eQ ⟨fk bJ G tU q0,⟨dQ G g2 (λh=>h),trivial⟩⟩,?_⟩));have kp:=fq aA EX;refine a8 G G E70 (KP (key:=k) _ hM hv hF hlen k3) (λr11 w11 hc=>?_);obtain⟨pZ,BM⟩:=hc;have:=ae g2;replace dx:=(BM.mem _ this).2 dx;replace g2:=BM.aP g2;replace hv:=hv.le BM.le;replace qx:=qx.le BM.le;replace dB:=dB.aE BM;replace fV:=fV.aE BM;replace dR:=dR.aE BM;replace hM:=BM.lt hM;have:=S.size;replace S:=S.aw BM;refine(fun(kp:eB _ _ _)=>ad ⟨G,G,λ_=>kp,?_⟩) a00;refine dP (A:=((RT.po).sl)) (hn:=by decide) (M:=M3) cH wK q0 G G hM (pZ) (.inr ⟨G,G⟩) (λaeR aeS ry oI=>?_)
     have:=ae g2;replace dx:=(oI.mem _ this).2 dx;replace g2:=oI.aP g2;replace hv:=hv.le oI.le;replace qx:=qx.le oI.le;replace pZ:=pZ.le oI.le;replace dB:=dB.aE oI;replace fV:=fV.aE oI;replace dR:=dR.aE oI;replace hM:=oI.lt hM;have:=S.size;replace S:=S.aw oI;refine(fun(kp:eB _ _ _)=>ad ⟨G,G,λ_=>kp,?_⟩) a00;refine cN (M:=M3) (base:=fw.heap.size) cH wK rfl rfl rfl rfl dR ry bY a03 a03 (S.size) (λBc Jp P3 EA iO=>?_);have:=ae g2;replace dx:=(iO.mem _ this).2 dx;replace g2:=iO.keep g2 (λh=>by first|exact dR.eU g2 h|exact dR.eu g2 q0 h|(have:=(dR.base _ h).1;omega));replace hv:=hv.le iO.le;replace qx:=qx.le iO.le;replace pZ:=pZ.le iO.le;replace ry:=ry.le iO.le;replace dB:=dB.step iO (λb h1 h2=>dB.cr dR q0 h1 h2);replace fV:=fV.step iO (λb h1 h2=>fV.cr dR q0 h1 h2);replace hM:=iO.lt hM;have:=S.size;replace S:=S.cC iO dR (aN _);replace dR:=EA;refine ad ⟨G,G,λh=>absurd G h,bR (o':=3) bJ G G tU q0 G G (ad ⟨G,G,λh=>absurd G h,?_⟩)⟩;refine cF (M:=Jp) tU rfl rfl g2 rfl ak3 dx (λab5 Tu oU=>?_);change ab5.heap[_]? =some (Obj.cells #[vi,vs,rk,Bc] _ _)at Tu;have:=ae g2;replace dx:=(oU.mem _ this).2 dx;replace hv:=hv.le oU.le;replace qx:=qx.le oU.le;replace pZ:=pZ.le oU.le;replace ry:=ry.le oU.le;replace dB:=dB.step oU (λc hc (h:c=eW)=>dB.eu g2 q0 (h▸hc));replace fV:=fV.step oU (λc hc (h:c=eW)=>fV.eu g2 q0 (h▸hc))
     replace dR:=dR.step oU (λc hc (h:c=eW)=>dR.eu g2 q0 (h▸hc));replace hM:=oU.lt hM;have:=S.size;replace S:=S.trans oU (λk hk h=>by have h:_=_:=h;subst h;first|(exfalso;omega)|(show _<=_;omega)|exact⟨by first|omega|assumption,(S.mem _ hk).1 ((oU.mem _ (ae g2)).1 dx)⟩|exact .inl rfl|exact .inr rfl|exact .inr (.inl rfl)|exact .inr (.inr rfl)|exact .inr (.inr (.inl rfl))|exact rfl);have Bt:=Tu;clear g2;have g2:=Bt;clear Bt;refine ad ⟨G,G,λh=>absurd G h,iu (aH (ab G G (bG G G G k3 (Rg.bA G G ?_))))⟩;refine⟨G,(j+1,Bc),Y7,?_,?_⟩
     ·exact⟨_,hM,S,hv,g2,dx,dB,fV,by rw[bB,hgk,bU,cG];exact dR,qx,by dsimp only;omega⟩
     ·dsimp only;omega
    ·refine cO (T.aQ (gJ (vs:=[vi,vs,rk,vl]) bJ G xW G G G g2 ?_));rw[aL k3]at dR;obtain⟨_,_,hea,_⟩:=dB.isSlice;obtain⟨_,_,heb,_⟩:=fV.isSlice;obtain⟨_,_,hec,_⟩:=dR.isSlice;have gR:=S.aP jV;have mR:=(S.mem _ (ae jV)).2 jF;refine ej (M:=M3) (vs:=[vi,vs,rk,vl]) xW G G (by intro u hu;simp at hu;rcases hu with rfl|rfl|rfl|rfl<;>first|exact mv W4 rfl rfl|(rw[hea];rfl)|(rw[heb];rfl)|(rw[hec];rfl)) rfl rfl gR mR (λwF gF sF=>?_);refine ad (aT ?_);have Fq:=SA.size;have SS:=(SA.aw S).cL sF (λk (hk:k=j5)=>by omega);have fG:∀b,M3 b->True:=λ_ _=>trivial
     have ab6:=dB.step sF (λb hb (hn:b=j5)=>dB.eu gR q0 (hn▸hb));have ar1:=fV.step sF (λb hb (hn:b=j5)=>fV.eu gR q0 (hn▸hb));have ab7:=dR.step sF (λb hb (hn:b=j5)=>dR.eu gR q0 (hn▸hb));exact yv (vs:=[vi,vs,rk,vl]) G G bJ G xW G gF ⟨NX (x:=fa L) (gT (hn:=by decide) ir SS (ab6.kj Fq) ah8) (gT (hn:=by decide) ir SS (ar1.kj Fq) ah8) ((qx.le sF.le).le (CC ir SS)) (gT (hn:=by decide) ir SS (ab7.kj Fq) (by show((keysOf L).map _).length<=_;rw[ay];omega)),SS.back⟩
end Go.K
namespace Go.K
open Go.Proofs
namespace TKSegQ
theorem tU:TI Tryz.prog 58 (.slice none 0 0) 1 24:=by unfold TI;kernel_rfl
theorem wK:TI Tryz.prog 80 (.slice none 0 0) 1 24:=by unfold TI;kernel_rfl
theorem Hz:TI Tryz.prog 139 (.pointer none) 1 8:=by unfold TI;kernel_rfl
theorem E78:Enters Tryz.prog 78:=enters Tryz.func78 rfl q0
theorem E79:Enters Tryz.prog 79:=enters Tryz.func79 rfl q0
end TKSegQ
open TKSegQ
set_option maxRecDepth 10000
theorem KS {M:aJ} {s:Se} {ls:List (List Po)} {k:List UInt8} {v0:Value} (w0:World) (hM:Lt M w0) (hs:dv RT.se M w0 v0 s) (oc:CZ s.2.2.1) (ok:ab4 s ls):
  Spec Tryz.prog 36 #[v0,sv k] w0 (λv w=>(RT.po.sl).V M w (V5 s.2.2.1 ls k) v/\Step M w0 M w aA):=by
 refine bF (args:=[_,_]) (fn:=Tryz.f36) Tryz.func36 G (n:=20) Tryz.ntmps36 ?_;have S:Step M w0 M w0 aA:=bz;refine T.aQ (Rg.bA G G (T.aQ (ab G G (cu G hs.iZ G ?_))));refine aD (A:=RT.se) (B:=(RT.di).ptr) j3 G G Hz q0 se2 G G q0 hs bY (λJW qu=>?_);refine bE iL G G G G G qu bY (λvd hvd=>?_);refine ab G G ?_;refine a8 rfl rfl E79 (find_spec (k:=k) _ hM (oQ.1 hvd) oc (by rw[ok.hls,ay];exact ok.hdl)) (λr6 w6 hc=>?_);obtain⟨s6,hr⟩:=hc
 obtain⟨p,rfl,hF⟩:∃p,r6= .tuple #[p,.bool (decide (k∈s.2.2.1))]/\agN s.2.2 k M p w6:=by
  rcases hr with⟨j,p,tl,rfl,h3,h4,h5⟩|⟨rfl,h3⟩
  ·exact⟨p,by rw[decide_eq_true (au h3)],.inl ⟨j,tl,h3,h4,h5⟩⟩
  ·exact⟨_,by rw[decide_eq_false h3],.inr ⟨rfl,h3⟩⟩
 replace hM:=s6.lt hM;have:=S.size;replace S:=S.aw s6;refine ab G G (cq G G G (cq G G G (aB G G (Rg.bA G G (aI (T.aQ (ab G G (kU G G (bc (v':= .bool (decide (k∉s.2.2.1))) (by simp) ?_)))))))));refine ad ?_;refine bM G (λc2=>?_) (λc2=>?_)
 ·refine T.aQ (Rg.bA G G (aT ?_));exact aX rfl rfl ⟨by rw[BV c2];exact mX,S⟩
 ·refine aR (T.aQ (ab G G ?_));obtain⟨j,tl,hj1,AP,Ga⟩:=hF.resolve_right (λh=>h.2 (dj.1 c2));rw[ok.hls,bj]at AP;obtain⟨l,Xi,rfl⟩:=Option.map_eq_some_iff.1 AP;obtain⟨pg,hrp,hrb,hrl⟩:=ok.hok l (au Xi);refine a8 G G E78 (Ia hM Ga pg hrp hrb hrl) (λr4 w4 hc=>?_);obtain⟨hr4,s4⟩:=hc;replace hM:=s4.lt hM;have:=S.size;replace S:=S.aw s4;refine Rg.bA G G (aT ?_);exact aX rfl rfl ⟨by rw[Kl oc.nodup hj1 Xi];exact hr4,S⟩
theorem Il {M:aJ} {p:Pa} {k:List UInt8} {v0:Value} (w0:World) (hM:Lt M w0) (hp:RT.pa.V M w0 p v0) (oc:CZ p.2.2.1) (hl:p.2.2.1.length=p.2.2.2.length):
  Spec Tryz.prog 73 #[v0,sv k] w0 (λv w=>(RT.po.sl).V M w (V5 p.2.2.1 p.2.2.2 k) v/\Step M w0 M w aA):=by
 have ir:=hM;refine bF (args:=[_,_]) (fn:=Tryz.f73) Tryz.func73 G (n:=25) Tryz.ntmps73 ?_;have S:Step M w0 M w0 aA:=bz;refine T.aQ ?_;refine kB (A:=RT.pa) (a:=p) G G hM hp G (λu2 wb0 mu YG _=>?_);replace hp:=hp.le YG.le;replace hM:=YG.lt hM;have:=S.size;replace S:=S.aw YG;refine Rg.bA G G (aI (T.aQ (Rg.bA G G (aS ?_))));refine dg (σ:=Nat) (λi=>[(1,sv k),(2,u2),(5,.int .i64 (i:Int))]) (λi w=>Step M w0 M w aA/\dv RT.pa M w u2 p/\i<=p.2.2.1.length/\∀(j:Nat) x,j<i->p.2.2.1[j]? =some x->x≠k) (λi=>p.2.2.1.length-i) 0 a06 ?_ ?_
 ·exact⟨S,mu,bC _,λj x h=>absurd h (tc _)⟩
 ·clear S mu hM;rintro i w ⟨S,mu,hi,kx⟩;have hM:=S.lt ir;refine aI (T.aQ (ab G G ?_));refine aD (A:=RT.pa) (B:=(RT.str.sl)) bJ G G qM q0 pa2 G G q0 mu bY (λu21 St=>?_);refine bE az G G G G G St bY (λv22 HF=>?_);have hln:=dZ HF;refine bK az G HF G (ch G G G (ad ?_));refine bM G (λc2=>?_) (λc2=>?_)
  ·refine aR (aI (aS (T.aQ ?_)));obtain⟨x,kR⟩:∃x,p.2.2.1[i]? =some x:=⟨_,al k3⟩;refine aD (A:=RT.pa) (B:=(RT.str.sl)) bJ G G qM q0 pa2 G G q0 mu bY (λu40 Su=>?_);refine bE az G G G G G Su bY (λv41 pO=>?_);refine ab G G ?_;refine bX az I9 G G G pO bY k3 (λu43 x_ eo Sv=>?_);rw[an]at eo;obtain rfl:=ar (kR.symm.trans eo);refine bE aG G G G G G Sv bY (λv44 ar2=>?_);obtain rfl:=fp ar2;refine ab G G (Rg.xa G G G (ad ?_));refine bM G (λc4=>?_) (λc4=>?_)
   ·subst c4;refine T.aQ ?_;refine aD (A:=RT.pa) (B:=(((RT.po).sl).sl)) bJ G G tU q0 XS G G q0 mu bY (λu50 abw=>?_);refine bE cH G G G G G abw bY (λv51 abx=>?_);refine ab G G ?_;obtain⟨l,Ow⟩:∃x,p.2.2.2[i]? =some x:=⟨_,al k3⟩;refine bX cH wK G G G abx bY k3 (λu53 x_ eo xL=>?_);rw[an]at eo;obtain rfl:=ar (Ow.symm.trans eo);refine bE bu G G G G G xL bY (λv54 KL=>?_);refine Rg.bA G G (aT ?_);exact aX rfl rfl ⟨by rw[Kl oc.nodup kR Ow];exact KL,S⟩
   ·refine aR (aH (ab G G (bG G G G k3 (Rg.bA G G ?_))));refine⟨G,i+1,a06,?_,?_⟩
    ·exact⟨S,mu,by omega,λj y hj hy=>by
      rcases cQ j i with h|h
      ·exact kx j y h hy
      ·rw[show j=i by omega,kR]at hy;cases hy;exact c4⟩
    ·omega
  ·refine cO (T.aQ (Rg.bA G G (aT ?_)));exact aX rfl rfl ⟨by rw[BV (λhm=>by obtain⟨j,hj⟩:=bQ.1 hm;exact kx j k (by have:=(aj.1 hj).1;omega) hj rfl)];exact mX,S⟩
end Go.K
namespace Go.K
open Go.Proofs
set_option maxRecDepth 10000
theorem ab8 (L:List En):(wV (fa L)).2.2.1.length=((keysOf L).map (pk L)).length:=by rw[ay];rfl
section
variable {P:Program} {r:Option Nat} {n:Nat} {L:Sl} {ds:List Deferred} {w:World} {K:Kt}
def Cf (o:Oper):Oper:=⟨o.dst,o.op,o.type,o.pos,#[],o.guard⟩
def loose:Nat->List Oper->List Oper
 |_,[]=>[]
 |0,o::l=>Cf o::l
 |q+1,o::l=>o::loose q l
theorem oe:∀(q:Nat) (l:List Oper),(loose q l).length=l.length
 |_,[]=>by cases ‹Nat› <;>rfl
 |0,o::l=>rfl
 |q+1,o::l=>by show(loose q l).length+1=_;rw[oe q l];rfl
def Alike (o o2:Oper):Prop:=(o2=o\/o2=Cf o)
theorem qD:∀{q:Nat} {l:List Oper} {j:Nat} {o:Oper},l[j]? =some o->∃o2,(loose q l)[j]? =some o2/\Alike o o2
 |_,[],j,o,h=>by simp at h
 |0,x::l,0,o,h=>⟨Cf x,rfl,by simp at h;subst h;exact .inr G⟩
 |0,x::l,j+1,o,h=>⟨o,by simpa[loose]using h,.inl rfl⟩
 |q+1,x::l,0,o,h=>⟨x,rfl,by simp at h;subst h;exact .inl G⟩
 |q+1,x::l,j+1,o,h=>by
  obtain⟨o2,h1,h2⟩:=qD (q:=q) (l:=l) (j:=j) (o:=o) a69;exact⟨o2,by simpa[loose]using h1,h2⟩
theorem OG {q:Nat} {l:List Oper} {j:Nat} {o2:Oper} (h:(loose q l)[j]? =some o2):∃o,l[j]? =some o/\Alike o o2:=by
 have hj:=(aj.1 h).1;rw[oe]at hj;obtain⟨o3,h1,h2⟩:=qD (q:=q) (al hj);rw[h]at h1;cases h1;exact⟨_,al hj,h2⟩
theorem Alike.dn {o o2:Oper} (h:Alike o o2):∀k∈dn o2,k∈Go.K.dn o:=λk hk=>by
 rcases h with rfl|rfl
 ·exact hk
 ·simp[Go.K.dn,Cf]at hk
theorem Da {q:Nat} {l:List Oper} (tmps:Array Value) (j:Nat):yielded (loose q l).toArray tmps j=yielded l.toArray tmps j:=by
 unfold yielded
 have:((loose q l).toArray[j]?).bind (·.dst)=(l.toArray[j]?).bind (·.dst):=by
  simp only[ec]
  cases ho:l[j]? with
  |some o=>obtain⟨o2,h1,h2⟩:=qD (q:=q) ho;rw[h1];rcases h2 with rfl|rfl<;>rfl
  |none=>rw[cE (by rw[oe];exact qK.1 ho)]
 rw[this]
theorem Ft {q:Nat} {l:List Oper} (tmps:Array Value) {o o2:Oper} (h:Alike o o2):Region.wanted o2 (yielded (loose q l).toArray tmps)=Region.wanted o (yielded l.toArray tmps):=by
 have hg:o2.guard=o.guard:=by rcases h with rfl|rfl<;>rfl
 unfold Region.wanted;rw[hg]
 cases o.guard with
 |none=>rfl
 |some g=>simp only[Da]
theorem OH {q:Nat} {l:List Oper} {Q:Exit->Act->World->Prop} {j:Nat} {o:Oper} {rest:List Nat} {a:Act} (ho:l[j]? =some o)
  (h:wpOpsIn (FW r) 0 P (loose q l).toArray (λe a w=>match e with| .normal=>wpOpsIn (FW r) 0 P l.toArray Q rest a w|e=>Q e a w) [j] a w):wpOpsIn (FW r) 0 P l.toArray Q (j::rest) a w:=by
 obtain⟨o2,wO,hA⟩:=qD (q:=q) ho;simp only[wpOpsIn,ec,ho,wO,Ft _ hA]at h ⊢
 split at h
 ·rename_i hw
  rw[if_pos hw];have h':Oper.wpIn (FW r) 0 P o a w (λx x_1=>wpOpsIn (FW r) 0 P l.toArray Q rest x x_1) (λe a w=>match e with| .normal=>wpOpsIn (FW r) 0 P l.toArray Q rest a w|e=>Q e a w):=by rcases hA with rfl|rfl<;>exact h
  clear h wO hA;refine ⟨h'.1,?_⟩;have h2:=h'.2;generalize (Oper.semAt (FW r).round a.eval o).run P w=res at h2 ⊢
  cases res with
  |ok nx w'=>
   cases nx with
   |enter f args=>exact⟨h2.1,h2.2.mono λe zW he=>by cases e<;>exact he⟩
   |round l f tmps vu body=>exact⟨h2.1,h2.2.mono λe zW he=>by cases e<;>exact he⟩
   |_=>exact h2
  |halt x w'=>cases x<;>exact h2
 ·rename_i hw
  rw[if_neg hw];rcases hA with rfl|rfl<;>exact⟨h.1,h.2⟩
theorem jt.loose (q:Nat) {l:List Oper} {wd:World} (h:jt P r n (Go.K.loose q l) L ds wd K):jt P r n l L ds wd K:=by
 intro a ha;obtain⟨J,h1,h2,h3,h4⟩:=h a ha;rw[oe]at h1 h3;refine⟨J,h1,λQ D a w j o rest hj ho rU hp nr hJ hk=>?_,h3,h4⟩;obtain⟨o2,wO,hA⟩:=qD (q:=q) ho;refine OH (q:=q) ho (h2 _ D a w j o2 [] (by rw[oe];exact hj) wO rU (λk hk=>hp k (hA.dn k hk)) (λi o' ig hD k hk=>?_) hJ λa' w' Y8=>hk _ _ Y8);obtain⟨o3,h5,h6⟩:=OG ig;exact nr i o3 h5 hD k (h6.dn k hk)
theorem T.ab9 {id:Nat} {l l':List Oper} (q:Nat) (π:List Nat) (m:Nat) (fl:List Nat) (c:Nat) (N:aJ) (hm:P.follows .mixedOrders=true) (I6:zY π (loose q l)=l') (vv:fB l 0=true) (aik:fB (loose q l) 0=true) (hπ:nt π l.length=true) (tq:Nat.blt m l'.length=true) (dX:fB l' 0=true) (pH:l8 l' m=true) (Dq:nc l' m fl c=true)
  (h:∀wD,(∀M,Step M w M wD aA)->jW P r n l'.toArray (l'.take m) L ds wD (λL'=>(∀j o,j∈fl->l'[j]? =some o->bO P N wD L' o)/\pY P r n l'.toArray N wD K c (l'.drop m) L' ds wD)):T P r n (.region id l.toArray true) L ds w K:=by
 subst I6;exact jt.t hm vv λwD hD=> .loose q (.perm π (by rw[oe];exact hπ) aik (AR m fl c N tq dX pH Dq (h wD hD)))
end
namespace TKMerge
theorem O4:TI Tryz.prog 25 (.pointer none) 1 8:=by unfold TI;kernel_rfl
theorem Wi:TI Tryz.prog 47 (.pointer none) 1 8:=by unfold TI;kernel_rfl
theorem tU:TI Tryz.prog 58 (.slice none 0 0) 1 24:=by unfold TI;kernel_rfl
theorem E4:TI Tryz.prog 72 (.agg #[(.slice none 0 0),(.slice none 0 0),(.slice none 0 0),(.slice none 0 0)]) 4 96:=by unfold TI;kernel_rfl
theorem wK:TI Tryz.prog 80 (.slice none 0 0) 1 24:=by unfold TI;kernel_rfl
theorem j6:TI Tryz.prog 124 (.agg #[(.int .i64 0),(.int .i64 0)]) 2 16:=by unfold TI;kernel_rfl
theorem E34:Enters Tryz.prog 34:=enters Tryz.func34 rfl q0
theorem E36:Enters Tryz.prog 36:=enters Tryz.func36 rfl q0
theorem E38:Enters Tryz.prog 38:=enters Tryz.func38 rfl q0
theorem E43:Enters Tryz.prog 43:=enters Tryz.func43 rfl q0
theorem E56:Enters Tryz.prog 56:=enters Tryz.func56 rfl q0
theorem E57:Enters Tryz.prog 57:=enters Tryz.func57 rfl q0
theorem E58:Enters Tryz.prog 58:=enters Tryz.func58 rfl q0
theorem E59:Enters Tryz.prog 59:=enters Tryz.func59 rfl q0
theorem E60:Enters Tryz.prog 60:=enters Tryz.func60 rfl q0
theorem E61:Enters Tryz.prog 61:=enters Tryz.func61 rfl q0
theorem E62:Enters Tryz.prog 62:=enters Tryz.func62 rfl q0
theorem E63:Enters Tryz.prog 63:=enters Tryz.func63 rfl q0
theorem E64:Enters Tryz.prog 64:=enters Tryz.func64 rfl q0
end TKMerge
open TKMerge
set_option maxRecDepth 10000
def nF (M:aJ) (w:World) (g:Gs) (bs:List Nat):Prop:=bs.length=g.length/\∀(i b:Nat) (p:List En×List Bool),bs[i]? =some b->g[i]? =some p->C8 M w p.2 b
theorem nF.le {M M':aJ} {w w':World} {g:Gs} {bs:List Nat} (hl:Le M w M' w') (h:nF M w g bs):nF M' w' g bs:=⟨h.1,λi b p h1 h2=>(h.2 i b p h1 h2).le hl⟩
theorem Tv {M:aJ} {w:World} {xs:List Int} {v:Value} (h:((RT.int .i64).sl).V M w xs v):∀x∈xs,-9223372036854775808<=x/\x<=9223372036854775807:=λx hx=>by
 obtain⟨a,cap,_,_,_,hs⟩:=jg.1 h;rcases hs with rfl|⟨b,o,_,_,h3⟩
 ·cases hx
 ·obtain⟨i,hi⟩:=bQ.1 hx;obtain⟨vs,hr,_⟩:=h3 i x hi;exact hr.2
theorem KT {M:aJ} {w:World} {s:Se} {v:Value} (h:dv RT.se M w v s):(∀x∈s.1,-9223372036854775808<=x/\x<=9223372036854775807)/\∀x∈s.2.1,-9223372036854775808<=x/\x<=9223372036854775807:=by
 obtain⟨b,o,vs,_,_,⟨va,vb,rfl,h1,vc,vd,rfl,h2,h3⟩,_⟩:=h;exact⟨Tv (v:=(RT.int .i64).sl.val va) ⟨va,h1,G⟩,Tv (v:=(RT.int .i64).sl.val vc) ⟨vc,h2,G⟩⟩
theorem Tx {L:List En} {a:List Bool} {d:Int} (h:d∈gx a) (hl:a.length=L.length):Oa (wV (fa L)).2.1 d=rM L d:=by
 obtain⟨k,rfl,hk⟩:=mM.1 h;have h1:=(aj.1 hk).1;unfold Oa rM;rw[if_pos ⟨by omega,by show(k:Int)<(L.map _).length;rw[ay];omega⟩];rfl
theorem Ty {L:List En} {a:List Bool} {d:Int} (h:d∈gx a) (hl:a.length=L.length):rM L d∈(wV (fa L)).2.1:=by
 obtain⟨k,rfl,hk⟩:=mM.1 h;have h1:k<(L.map (·.2)).length:=by rw[ay];have:=(aj.1 hk).1;omega
 unfold rM;rw[an,ax,al h1];exact yg _
theorem MF {ls:List (List Int)} {a:Nat} (h:∀l∈ls,l.length<=a):uT ls<=a*ls.length:=by
 have key:∀n,n<=ls.length->B0 (ud ls) n<=a*n:=by
  intro n
  induction n with
  |zero=>intro _;exact bC _
  |succ n ih=>
   intro hn;have h1:=ih k3
   have h2:ud ls n<=a:=by
    unfold ud;rw[ax,al k3];exact h _ (yg _)
   unfold B0;rw[Nat.mul_add];omega
 exact key ls.length (aN _)
theorem xX {g:Gs} (hg:Kw g):Up (jc g):=λl hl=>by
 obtain⟨p,hp,rfl⟩:=ck.1 hl;obtain⟨h1,h2⟩:=hg p hp;have hu:=E9 h1
 have RG:∀d∈gx p.2,∃(k:Nat) (hk:k<p.1.length),d=k/\rM p.1 d=(p.1[k]'hk).2:=λd hd=>by
  obtain⟨k,rfl,hk⟩:=mM.1 hd;have xg:k<p.1.length:=by have:=(aj.1 hk).1;omega
  refine ⟨k,xg,G,?_⟩;unfold rM;rw[an,ax,bj,al xg];rfl
 refine BC (λx hx=>?_) (dr.2 ((xN p.2).imp_of_mem λ{a b} ha hb hab=>?_))
 ·obtain⟨d,hd,rfl⟩:=ck.1 hx;obtain⟨k,hk,rfl,e⟩:=RG d hd;rw[e];exact(xO h1 _ (yg _)).1
 ·obtain⟨k,hk,rfl,e⟩:=RG a ha;obtain⟨k',xf,rfl,e'⟩:=RG b hb;rw[e,e'];exact(cJ.1 hu) k k' hk xf k3
theorem MG {o os:List Fo} {k:Nat} {x y:Fo} (hl:os.length=o.length) (hx:(os.take k++o.drop k)[k]? =some x) (hy:os[k]? =some y):(os.take k++o.drop k).set k y=os.take (k+1)++o.drop (k+1):=by
 have hk:k<os.length:=(aj.1 hy).1;rw[List.set_append_right _ _ ak5,aU,jB k3,CA,bB,hy,bU,eR];congr 1;rw[dV (by omega:k<o.length)];rfl
theorem Ee {M:aJ} {w:World}:∀n:Nat,eX ((RT.int .i64).sl) M w (List.replicate n []) (List.replicate n (.slice none 0 0))
 |0=>rfl
 |n+1=>⟨[.slice none 0 0],_,rfl,⟨none,0,rfl,bC _,bC _,.inl rfl⟩,Ee n⟩
theorem Mg.KU {g:Gs} {os:List Fo} {E:List En} (h:Mg g os E) (hn:∀p∈g,p.1.length<=10000):os.length<=g.length*10000:=by
 have h1:=h.nd.length_le_of_subset (l₂:=(List.range g.length).flatMap fun(i:Nat)=>(List.range 10000).map fun(d:Nat)=>(((i:Int),(d:Int)):Fo)) (λx hx=>by
  obtain⟨k,hk⟩:=bQ.1 hx;obtain⟨i,d,e,rfl,_,L,a,a1,a2,_⟩:=h.at_ k x hk;have h3:=hn _ (au a1);have h4:=(aj.1 a2).1;exact kV.2 ⟨i,List.mem_range.2 (aj.1 a1).1,ck.2 ⟨d,List.mem_range.2 (by simp only at h3;omega),rfl⟩⟩)
 have h2:∀n:Nat,((List.range n).flatMap fun(i:Nat)=>(List.range 10000).map fun(d:Nat)=>(((i:Int),(d:Int)):Fo)).length=n*10000:=λn=>by
  rw[List.length_flatMap];simp only[ay,List.length_range,List.map_const'];rw[List.sum_replicate_nat]
 rw[h2]at h1;exact h1
theorem Fu {a:Nat}:∀{ks:List (List (List UInt8))},(∀l∈ks,l.length<=a)->ks.flatten.length<=a*ks.length
 |[],_=>by simp
 |l::ks,h=>by
  have h1:=h l (bZ ..);have h2:=Fu (ks:=ks) λx hx=>h x (cI _ hx)
  rw[List.flatten_cons,aY,dG,Nat.mul_add];omega
theorem Im {g:Gs} {tos:List (List Int)} {k:List UInt8} (hg:Kw g) (hn:∀p∈g,p.1.length<=10000):∀{n:Nat},n<=g.length->(Ad g tos k n).length<=n*10000
 |0,_=>by simp[Ad]
 |n+1,h=>by
  have h1:=Im (k:=k) (tos:=tos) hg hn (n:=n) k3;have ke:g[n]? =some g[n]:=al k3;have h2:=wR (tos.getD n []) (pk (g.getD n ([],[])).1 k);rw[show g.getD n ([],[])=g[n]from by rw[ax,ke];rfl]at h2;have h3:(pk g[n].1 k).length<=g[n].1.length:=(mJ k g[n].1 0 (jQ (hg _ (au ke)).1)).1;have h4:=hn _ (au ke);rw[yR,aY,show g.getD n ([],[])=g[n]from by rw[ax,ke];rfl];omega
theorem jA {α:Type} {f:α->Bool} {l:List α} {q:Nat} {x:α} (h:l[q]? =some x):(l.take (q+1)).filter f=if f x=true then(l.take q).filter f++[x]else(l.take q).filter f:=by
 rw[bB,h,bU,jK]
 split<;>rename_i h1<;>simp[h1]
theorem MH {L:List En} (h:wW (-1) L=true) (hn:L.length<=100000):ab4 (wV (fa L)) ((keysOf L).map (pk L)):=by
 have hF:=jQ h
 have hk:(keysOf L).length<=50000000:=by
  have h1:=(lD L).nodup.length_le_of_subset (l₂:=jb L) (λx hx=>ka.1 hx);have:=mK hF;omega
 refine ⟨G,ab8 L,by show(L.map _).length<=_;rw[ay];omega,by show(L.map _).length<=_;rw[ay];omega,by show(keysOf L).length<=_;omega,λl hl=> ?_⟩;obtain⟨k,_,rfl⟩:=ck.1 hl;have h1:=mJ k L 0 hF;have pg:ik (-1) (pk L k)=true:=xG k L 0 (-1) hF k3 k3;have l4:∀p∈pk L k,p.2.length<=500:=λp hp=>(h1.2 p hp).2.2
 obtain⟨h2,h3⟩:=yI (pk L k) (-1) 500 k3 pg l4 k3;have hl:(pk L k).length<=L.length:=h1.1;exact⟨pg,λp hp=>by have:=l4 p hp;omega,by omega,by omega⟩
theorem Io {g:Gs} (hg:Kw g) (h:ta (jc g) none):B5 g:=by
 obtain⟨i,k,i',k',n,fG,h1,h2⟩:=h;obtain⟨d,e,a1,a2,a3,a4,a5⟩:=Aw hg h1;obtain⟨d',e',b1,b2,b3,b4,b5⟩:=Aw hg h2;refine⟨i,d,i',d',e,e',a1,b1,fun⟨hi,hd⟩=>fG ⟨hi,?_⟩,by rw[<-a3,<-b3]⟩;subst hi;subst hd;obtain⟨L,a,c1,_⟩:=a1;have We:(im g).getD i []=gx a:=by unfold im;rw[ax,bj,c1];rfl
 rw[We]at a5 b5;have qL:(gx a).Nodup:=(xN a).imp λh e=>by omega
 obtain⟨p1,p2⟩:=aj.1 a5;obtain⟨q1,q2⟩:=aj.1 b5;exact(List.getElem_inj (h₀:=p1) (h₁:=q1) qL).1 (p2.trans q2.symm)
theorem Tz {g:Gs} (hg:Kw g) {out:List Hd} (h:ta (jc g) (some out)) {k:Nat} {x:Fo} (hk:(du out)[k]? =some x):∃(i q d:Nat) (t:List Int),x=((i:Int),(q:Int))/\(im g)[i]? =some t/\t[q]? =some (d:Int)/\(ia g (du out))[k]? =some ((i:Int),(d:Int)):=by
 unfold du at hk;rw[bj]at hk
 cases ho:out[k]? with
 |none=>rw[ho]at hk;simp at hk
 |some o=>
  rw[ho]at hk;obtain⟨i,q,e1,e2⟩:=h.2.1 o (au ho);obtain rfl:o.2=x:=by simpa using hk
  obtain⟨d,e,a1,a2,a3,a4,a5⟩:=Aw hg e2;have hx:o.2=((i:Int),(q:Int)):=by rw[e1]
  have eK:=(aj.1 a5);obtain⟨L,a,c1,_⟩:=a1;have We:(im g)[i]? =some (gx a):=by unfold im;rw[bj,c1];rfl
  have px:(im g).getD i []=gx a:=by rw[ax,We];rfl
  rw[px]at a5 a2;refine ⟨i,q,d,gx a,hx,We,a5,?_⟩;unfold ia du;rw[bj,bj,ho,dA,dA,hx];show some ((i:Int),((im g).getD (i:Int).toNat []).getD (q:Int).toNat 0)=_;rw[an,an,px,a2]
set_option maxHeartbeats 4000000 in
theorem KV {M:aJ} {g:Gs} {bs:List Nat} {v0 v1:Value} {w0:World} (hM:Lt M w0) (hs:(((RT.se).ptr).sl).V M w0 (g.map λp=>wV (fa p.1)) v0) (hb:(RT.Ur.sl).V M w0 bs v1) (dy:nF M w0 g bs) (hg:Kw g) (Ow:g.length<=100) (OI:∀p∈g,p.1.length<=10000) (FR:∀p∈g,(keysOf p.1).length<=100000) (h0: ¬M 1) (Ol:∃e fr,w0.heap[1]? =some (.cells (OS.map fun(k:Nat)=>Value.int .u8 (k:Int)).toArray e fr)):
  Spec Tryz.prog 22 #[v0,v1] w0 (λv w=>Step M w0 M w aA/\((∃os E,Mg g os E/\∃s,v= .tuple #[s,.int .i64 0]/\dv RT.se M w s (wV (fa E)))\/(B5 g/\v= .tuple #[.pointer none,.int .i64 5]))):=by
 have ir:=hM;obtain⟨etb,ftb,htb⟩:=Ol;have pH:(g.map λp=>wV (fa p.1)).length=g.length:=ay ..;have aDd:=dy.1;refine bF (args:=[_,_]) (fn:=Tryz.f22) Tryz.func22 G (n:=201) Tryz.ntmps22 ?_;have S:Step M w0 M w0 aA:=bz;refine T.aQ (aB G G (Rg.bA G G (aI (T.aQ (ab G G (ab G G ?_))))));refine a8 G G E56 (KD (ns:=g.map λp=>p.1.length) w0 hs hb (by rw[dy.1,pH]) (by rw[ay,pH]) (λi b n h1 h2=>?_)) (λr1 w1 hc=>?_)
 ·rw[bj]at h2
  cases ke:g[i]? with
  |none=>rw[ke]at h2;simp at h2
  |some p=>
   rw[ke]at h2;obtain rfl:p.1.length=n:=by simpa using h2
   obtain⟨ws,h3,_⟩:=dy.2 i b p h1 ke;rw[(hg p (au ke)).2]at h3;exact⟨ws,h3⟩
 obtain⟨rfl,e1⟩:=hc;obtain rfl:w0=w1:=e1.symm;refine bc (v':= .bool true) (congrArg Value.bool (decide_eq_true (by rw[p9];apply List.map_congr_left;intro p _;show(p.1.map _).length=_;rw[ay]))) (kU rfl rfl (bc (v':= .bool false) rfl (ad (jD rfl (aR (T.aQ (aB rfl rfl (Rg.bA rfl rfl (aI ?_)))))))));refine aH (Rg.bA G G (aI (T.aQ (ab G G (bK fS G hs G (bc (v':= .int .i64 (g.length:Int)) (by rw[pH]) (ab G G (ad (aS ?_)))))))));refine dg (σ:=Nat×Value×Value×Value) (λq=>[(0,v0),(1,v1),(4,.pointer none),(5,.int .i64 0),(6,q.2.2.1),(7,q.2.1),(8,q.2.2.2),(34,v0),(35,.int .i64 (g.length:Int)),(36,.int .i64 (q.1:Int))]) (λq w=>q.1<=g.length/\∃M',Lt M' w/\Step M w0 M' w aA/\(((RT.se).ptr).sl).V M' w (g.map λp=>wV (fa p.1)) v0/\(RT.Ur.sl).V M' w bs v1/\nF M' w g bs/\Own ((RT.int .i64).sl) 37 M' w w0.heap.size q.2.1 ((im g).take q.1)/\Own ((RT.int .i64).sl) 37 M' w w0.heap.size q.2.2.1 ((jc g).take q.1)/\Own (RT.str.sl) 57 M' w w0.heap.size q.2.2.2 ((g.map λp=>keysOf p.1).take q.1)/\fL q.2.1 q.2.2.1) (λq=>g.length-q.1) (0,.slice none 0 0,.slice none 0 0,.slice none 0 0) a16 ?_ ?_
 ·exact⟨bC _,_,hM,S,hs,hb,dy,dh _ _ _ _ _,dh _ _ _ _ _,dh _ _ _ _ _,fL.nil _⟩
 ·clear hM S hs hb dy;rintro⟨i,vl,vs,vk⟩ w ⟨hi,M1,hM,S,hs,hb,dy,dR,eC,hok,qt⟩;dsimp only at hi dR eC hok qt ⊢;refine T.aQ (ch G G G (ad (aI ?_)));refine bM G (λc6=>?_) (λc6=>?_)
  ·refine aR (aI (aS (T.aQ (ab G G ?_))));obtain⟨p,ke⟩:∃p,g[i]? =some p:=⟨_,al k3⟩;have FP:=au ke;have NO:(g.map λp=>wV (fa p.1))[i]? =some (wV (fa p.1)):=by rw[bj,ke];rfl
   obtain⟨TA,uQ⟩:=hg p FP;have Oc:=OI p FP;refine bX fS O4 G G G hs bY k3 (λu7 x_ eo hu7=>?_);rw[an]at eo;obtain rfl:=ar (NO.symm.trans eo);refine bE kC G G G G G hu7 bY (λv7 Cw=>?_);have l4:=oQ.1 Cw;obtain⟨a7,rfl⟩:=l4.iZ;refine aB G G (Rg.bA G G (T.aQ (ab G G (ab G G ?_))));obtain⟨b8,P0⟩:∃b,bs[i]? =some b:=⟨_,al (by rw[dy.1];omega)⟩;have mn:=dy.1;refine bX Tryz.underlying49 Wi G G G hb bY k3 (λu8 x_ eo hu8=>?_);rw[an]at eo;obtain rfl:=ar (P0.symm.trans eo);refine bE qa G G G G G hu8 bY (λvb DR=>?_);obtain rfl:=LF.1 DR;have ar6:=S.aP htb;refine a8 G G E57 (HS hM (dy.2 i b8 p P0 ke) (λh=>h0 ((S.mem 1 (ae htb)).1 h)) ⟨etb,ftb,ar6⟩) (λr8 w8 hc=>?_);obtain⟨y4,s8⟩:=hc;replace hs:=hs.le s8.le;replace hb:=hb.le s8.le;replace dy:=dy.le s8.le;replace l4:=l4.le q0 s8.le;replace dR:=dR.aE s8;replace eC:=eC.aE s8;replace hok:=hok.aE s8;replace hM:=s8.lt hM;have:=S.size;replace S:=S.aw s8;refine Rg.bA G G (T.aQ (Rg.bA G G (aI (T.aQ (ab G G ?_)))));have Ga:=od p.2;refine bK ah G y4 G (ab G G (ad (aS ?_)));refine dg (σ:=Nat×Value) (λq=>[(0,v0),(1,v1),(4,.pointer none),(5,.int .i64 0),(6,vs),(7,vl),(8,vk),(34,v0),(35,.int .i64 (g.length:Int)),(36,.int .i64 (i:Int)),(9,.int .i64 (i:Int)),(10,.pointer (some a7)),(11,r8),(12,q.2),(46,r8),(47,.int .i64 ((gx p.2).length:Int)),(48,.int .i64 (q.1:Int))]) (λq w=>q.1<=(gx p.2).length/\∃M',Lt M' w/\Step M w0 M' w aA/\(((RT.se).ptr).sl).V M' w (g.map λp=>wV (fa p.1)) v0/\(RT.Ur.sl).V M' w bs v1/\nF M' w g bs/\dv RT.se M' w (.pointer (some a7)) (wV (fa p.1))/\((RT.int .i64).sl).V M' w (gx p.2) r8/\Own ((RT.int .i64).sl) 37 M' w w0.heap.size vl ((im g).take i)/\Own ((RT.int .i64).sl) 37 M' w w0.heap.size vs ((jc g).take i)/\Own (RT.str.sl) 57 M' w w0.heap.size vk ((g.map λp=>keysOf p.1).take i)/\Own (RT.int .i64) 3 M' w w0.heap.size q.2 (((gx p.2).take q.1).map (rM p.1))) (λq=>(gx p.2).length-q.1) (0,.slice none 0 0) (.cons G (.cons G (.cons G (.cons G (.cons G (.cons G (.cons G a16))))))) ?_ ?_
   ·exact⟨bC _,_,hM,S,hs,hb,dy,l4,y4,dR,eC,hok,dh _ _ _ _ _⟩
   ·clear hM S hs hb dy l4 y4 dR eC hok;rintro⟨k,vn⟩ w ⟨IM,M2,hM,S,hs,hb,dy,l4,y4,dR,eC,hok,nG⟩;dsimp only at IM nG ⊢;refine T.aQ (ch G G G (ad (aI ?_)));refine bM G (λGt=>?_) (λGt=>?_)
    ·refine aR (aI (aS (T.aQ ?_)));obtain⟨d,hk⟩:∃d,(gx p.2)[k]? =some d:=⟨_,al k3⟩;have hdm:=au hk;refine bX ah I3 G G G y4 bY k3 (λu12 x_ eo ab0=>?_);rw[an]at eo;obtain rfl:=ar (hk.symm.trans eo);refine bE aq G G G G G ab0 bY (λv12 Ik=>?_);obtain⟨rfl,_,_⟩:=ze.1 Ik;refine Rg.bA G G (aH (ab G G (ab G G (ab G G ?_))));have UK:=(KT l4).2 _ (Ty hdm uQ);refine a8 G G E58 (DZ _ l4) (λr13 w13 hc=>?_);obtain⟨rfl,rfl⟩:=hc;refine bc (v':= .int .i64 (rM p.1 d)) (congrArg (Value.int .i64) (Tx hdm uQ)) ?_;refine dP (A:=RT.int .i64) (hn:=by decide) (M:=M2) ah I3 q0 G G hM (gw k3) (.inr ⟨G,G⟩) (λiv XM Bo gr=>?_);replace hs:=hs.le gr.le;replace hb:=hb.le gr.le;replace dy:=dy.le gr.le;replace l4:=l4.le q0 gr.le;replace y4:=y4.le gr.le;replace dR:=dR.aE gr;replace eC:=eC.aE gr;replace hok:=hok.aE gr;replace nG:=nG.aE gr;replace hM:=gr.lt hM;have:=S.size;replace S:=S.aw gr;refine cN (M:=M2) (base:=w0.heap.size) ah I3 rfl rfl rfl rfl nG Bo bY ad2 ad2 (S.size) (λaim awZ aw0 aca uk=>?_);replace hs:=hs.le uk.le;replace hb:=hb.le uk.le;replace dy:=dy.le uk.le;replace l4:=l4.le q0 uk.le;replace y4:=y4.le uk.le;replace Bo:=Bo.le uk.le;replace dR:=dR.step uk (λb h1 h2=>dR.cr nG q0 h1 h2);replace eC:=eC.step uk (λb h1 h2=>eC.cr nG q0 h1 h2);replace hok:=hok.step uk (λb h1 h2=>hok.cr nG q0 h1 h2);replace hM:=uk.lt hM;have:=S.size
     replace S:=S.cC uk nG (aN _);replace nG:=aca;refine Rg.bA G G (aH (bG G G G k3 (ab G G (ad ?_))));refine⟨G,(k+1,aim),(.cons G (.cons G (.cons G (.cons G (.cons G (.cons G (.cons G a16))))))),?_,?_⟩
     ·exact⟨by dsimp only;omega,_,hM,S,hs,hb,dy,l4,y4,dR,eC,hok,by dsimp only;rw[bB,hk,bU,cG];exact nG⟩
     ·dsimp only;omega
    ·refine cO (aH ?_);rw[aL k3]at nG;refine ab G G (ab G G ?_);refine dP (A:=((RT.int .i64).sl)) (hn:=by decide) (M:=M2) cn iJ q0 G G hM (y4) (.inr ⟨G,G⟩) (λYK YL kO gK=>?_);replace hs:=hs.le gK.le;replace hb:=hb.le gK.le;replace dy:=dy.le gK.le;replace l4:=l4.le q0 gK.le;replace y4:=y4.le gK.le;replace dR:=dR.aE gK;replace eC:=eC.aE gK;replace hok:=hok.aE gK;replace nG:=nG.aE gK;replace hM:=gK.lt hM;have:=S.size;replace S:=S.aw gK;refine fI (M:=M2) (base:=w0.heap.size) cn iJ rfl rfl rfl rfl dR kO bY a03 a03 S.size (λv15 w15 acb Aa ar7=>?_);generalize ji (M2) v15=M15 at acb Aa;have YM:fL v15 vs:=qt.grown ar7 (λb hb=>(eC.base b hb).2);replace eC:=eC.step Aa (λb hb h=>qt b h hb);replace hok:=hok.step Aa (λb h1 h2=>hok.cr dR q0 h1 h2);replace nG:=nG.step Aa (λb h1 h2=>nG.cr dR q0 h1 h2);replace hs:=hs.le Aa.le;replace hb:=hb.le Aa.le;replace dy:=dy.le Aa.le;replace l4:=l4.le q0 Aa.le;replace y4:=y4.le Aa.le;replace S:=S.cC Aa dR (aN _);replace hM:=Aa.lt hM;replace dR:=acb;clear acb;refine ab G G (ab G G ?_);have qN:=nG.view (hn:=by decide) a86;replace hs:=hs.le (ed _ vn _);replace hb:=hb.le (ed _ vn _);replace dy:=dy.le (ed _ vn _);replace l4:=l4.le q0 (ed _ vn _);replace y4:=y4.le (ed _ vn _);replace dR:=dR.uY (v:=vn) (λb hb=>by first|exact dR.cr nG q0 hb|exact KW b hb);replace eC:=eC.uY (v:=vn) (λb hb=>by first|exact eC.cr nG q0 hb|exact Ip b hb);replace hok:=hok.uY (v:=vn) (λb hb=>by first|exact hok.cr nG q0 hb|exact KX b hb);replace hM:Lt (rm M15 vn) _:=λb hb=>hM b hb.1
     replace S:=S.freeze (v:=vn) (λb hb=>by have:=(nG.base b hb).1;omega);clear nG;refine dP (A:=((RT.int .i64).sl)) (hn:=by decide) (M:=rm M15 vn) cn iJ q0 G G hM (qN) (.inr ⟨G,G⟩) (λSr agY acd k8=>?_);replace hs:=hs.le k8.le;replace hb:=hb.le k8.le;replace dy:=dy.le k8.le;replace l4:=l4.le q0 k8.le;replace y4:=y4.le k8.le;replace qN:=qN.le k8.le;replace dR:=dR.aE k8;replace eC:=eC.aE k8;replace hok:=hok.aE k8;replace hM:=k8.lt hM;have:=S.size;replace S:=S.aw k8;refine fI (M:=rm M15 vn) (base:=w0.heap.size) cn iJ rfl rfl rfl rfl eC acd bY a03 a03 S.size (λv157 aDe TB Db ain=>?_);generalize ji (rm M15 vn) v157=ace at TB Db;have acf:fL v157 v15:=YM.symm.grown ain (λb hb=>(dR.base b hb).2);replace dR:=dR.step Db (λb hb h=>YM.symm b h hb);replace hok:=hok.step Db (λb h1 h2=>hok.cr eC q0 h1 h2);replace hs:=hs.le Db.le;replace hb:=hb.le Db.le;replace dy:=dy.le Db.le;replace l4:=l4.le q0 Db.le;replace y4:=y4.le Db.le;replace S:=S.cC Db eC (aN _);replace hM:=Db.lt hM;replace eC:=TB;clear TB;refine ab G G (ab G G ?_);refine a8 G G E38 (Kj _ hM (by show _=(((fa p.1).2.2.2).map pJ).length;rw[ay];show _=((keysOf p.1).map _).length;rw[ay];rfl) (by have:=FR p FP;show(keysOf p.1).length<=_;omega) l4) (λaw1 aw2 hc=>?_);obtain⟨acg,vJ⟩:=hc;replace hs:=hs.le vJ.le;replace hb:=hb.le vJ.le;replace dy:=dy.le vJ.le;replace l4:=l4.le q0 vJ.le;replace y4:=y4.le vJ.le;replace dR:=dR.aE vJ;replace eC:=eC.aE vJ;replace hok:=hok.aE vJ;replace hM:=vJ.lt hM;have:=S.size;replace S:=S.aw vJ;refine dP (A:=(RT.str.sl)) (hn:=by decide) (M:=ace) iM qM q0 G G hM (acg) (.inr ⟨G,G⟩) (λar8 ar9 Wy oV=>?_)
     replace hs:=hs.le oV.le;replace hb:=hb.le oV.le;replace dy:=dy.le oV.le;replace l4:=l4.le q0 oV.le;replace y4:=y4.le oV.le;replace acg:=acg.le oV.le;replace dR:=dR.aE oV;replace eC:=eC.aE oV;replace hok:=hok.aE oV;replace hM:=oV.lt hM;have:=S.size;replace S:=S.aw oV;refine fI (M:=ace) (base:=w0.heap.size) iM qM rfl rfl rfl rfl hok Wy bY a03 a03 S.size (λYN aw3 KY vK asa=>?_);generalize ji (ace) YN=aw4 at KY vK;replace dR:=dR.step vK (λb h1 h2=>dR.cr hok q0 h1 h2);replace eC:=eC.step vK (λb h1 h2=>eC.cr hok q0 h1 h2);replace hs:=hs.le vK.le;replace hb:=hb.le vK.le;replace dy:=dy.le vK.le;replace l4:=l4.le q0 vK.le;replace y4:=y4.le vK.le;replace S:=S.cC vK hok (aN _);replace hM:=vK.lt hM;replace hok:=KY;clear KY;refine aB G G (aB G G (Rg.bA G G (aH (bG G G G k3 (ab G G (ad ?_))))));refine⟨G,(i+1,v15,v157,YN),a16,?_,?_⟩
     ·refine⟨by dsimp only;omega,_,hM,S,hs,hb,dy,?_,?_,?_,acf.symm⟩
      ·dsimp only;rw[bB,show(im g)[i]? =some (gx p.2)from by unfold im;rw[bj,ke];rfl];exact dR
      ·dsimp only;rw[bB,show(jc g)[i]? =some ((gx p.2).map (rM p.1))from by unfold jc;rw[bj,ke];rfl];exact eC
      ·dsimp only;rw[bB,bj,ke];exact hok
     ·dsimp only;omega
  ·refine cO (T.aQ ?_);rw[aL (by unfold im;rw[ay];omega)]at dR;rw[aL (by unfold jc;rw[ay];omega)]at eC;rw[aL a86]at hok;have um:=qt.symm;refine ab G G ?_;have iN:=dR.view (hn:=by decide) (by unfold im;rw[ay];omega);replace hs:=hs.le (ed _ vl _);replace hb:=hb.le (ed _ vl _);replace dy:=dy.le (ed _ vl _);replace eC:=eC.uY (v:=vl) (λb hb=>by first|exact eC.cr dR q0 hb|exact um b hb);replace hok:=hok.uY (v:=vl) (λb hb=>by first|exact hok.cr dR q0 hb|exact KZ b hb);replace hM:Lt (rm M1 vl) _:=λb hb=>hM b hb.1
   replace S:=S.freeze (v:=vl) (λb hb=>by have:=(dR.base b hb).1;omega);clear dR;have kh:=eC.view (hn:=by decide) (by unfold jc;rw[ay];omega);replace hs:=hs.le (ed _ vs _);replace hb:=hb.le (ed _ vs _);replace dy:=dy.le (ed _ vs _);replace iN:=iN.le (ed _ vs _);replace hok:=hok.uY (v:=vs) (λb hb=>by first|exact hok.cr eC q0 hb|exact Iq b hb);replace hM:Lt (rm (rm M1 vl) vs) _:=λb hb=>hM b hb.1
   replace S:=S.freeze (v:=vs) (λb hb=>by have:=(eC.base b hb).1;omega);clear eC;have iE:=hok.view (hn:=by decide) a86;replace hs:=hs.le (ed _ vk _);replace hb:=hb.le (ed _ vk _);replace dy:=dy.le (ed _ vk _);replace iN:=iN.le (ed _ vk _);replace kh:=kh.le (ed _ vk _);replace hM:Lt (rm (rm (rm M1 vl) vs) vk) _:=λb hb=>hM b hb.1
   replace S:=S.freeze (v:=vk) (λb hb=>by have:=(hok.base b hb).1;omega);clear hok
   have TC:∀l∈jc g,l.length<=10000:=λl hl=>by
    obtain⟨p,hp,rfl⟩:=ck.1 hl;rw[ay];have:=od p.2;have:=OI p hp;have:=(hg p hp).2;omega
   have asb:(jc g).length=g.length:=by unfold jc;rw[ay]
   refine a8 G G E59 (Cc hM kh k3 (λl hl=>by have:=TC l hl;omega) (by have:=MF TC;have:10000*(jc g).length<=10000*1000:=Cs _ k3;omega)) (λr17 w17 hc=>?_);obtain⟨M17,aDg,E3,vo,Ya,rfl,Ir⟩:=hc;replace hs:=hs.le E3.le;replace hb:=hb.le E3.le;replace dy:=dy.le E3.le;replace iN:=iN.le E3.le;replace kh:=kh.le E3.le;replace iE:=iE.le E3.le;replace hM:=E3.lt hM;have:=S.size;replace S:=S.aw E3;refine ab G G (cq G G G (cq G G G (aB G G (Rg.bA G G (aI (T.aQ (ab G G (fH G G G (ad ?_)))))))));refine bM G (λc18=>?_) (λc18=>?_)
   ·have kx:B5 g:=by
     rcases Ir with⟨h1,_,_⟩|⟨_,r,hr,h|⟨out,_,rfl,_⟩⟩
     ·exact absurd (xX hg) h1
     ·rw[h.1]at hr;exact Io hg hr
     ·exact absurd G c18
    obtain⟨rfl,rfl⟩:Ya=5/\vo= .slice none 0 0:=by
     rcases Ir with⟨h1,_,_⟩|⟨_,r,hr,h|⟨out,_,rfl,_⟩⟩
     ·exact absurd (xX hg) h1
     ·exact h.2
     ·exact absurd G c18
    refine T.aQ (ab G G (aB G G (Rg.bA G G (aT ?_))));exact fA G G G ⟨S.back,.inr ⟨kx,G⟩⟩
   ·obtain⟨out,TD,rfl,aio,ho⟩:∃out,ta (jc g) (some out)/\Ya=0/\(du out).length<=1099511627776/\Own RT.fo 124 M17 w17 w.heap.size vo (du out):=by
     rcases Ir with⟨h1,_,_⟩|⟨_,r,hr,h|⟨out,h1,h2,h3,h4⟩⟩
     ·exact absurd (xX hg) h1
     ·exact absurd (by rw[h.2.1];decide) c18
     ·exact⟨out,h1▸hr,h2,h3,h4⟩
    clear Ir;have zq:=Yp hg TD;have OJ:(ia g (du out)).length=(du out).length:=by unfold ia;rw[ay]
    have hwz:=S.size
    have hEl:((ia g (du out)).map (fy g)).length<=1000000:=by
     have h1:=zq.KU OI;rw[ay];have:g.length*10000<=100*10000:=fM _ Ow;omega
    refine aR (aI (T.aQ (ab G G (fW dz G ho G (ab G G (ad (aS ?_)))))));refine dg (σ:=Nat) (λk=>[(0,v0),(7,vl),(8,vk),(15,vo),(81,vo),(82,.int .i64 ((du out).length:Int)),(83,.int .i64 (k:Int))]) (λk w=>k<=(du out).length/\∃M',Lt M' w/\Step M w0 M' w aA/\(((RT.se).ptr).sl).V M' w (g.map λp=>wV (fa p.1)) v0/\(RT.Ur.sl).V M' w bs v1/\nF M' w g bs/\(((RT.int .i64).sl).sl).V M' w (im g) vl/\(RT.str.sl.sl).V M' w (g.map λp=>keysOf p.1) vk/\Own RT.fo 124 M' w w0.heap.size vo ((ia g (du out)).take k++(du out).drop k)) (λk=>(du out).length-k) 0 a89 ?_ ?_
    ·exact⟨bC _,_,hM,S,hs,hb,dy,iN,iE,by rw[vQ,ew,List.drop_zero];exact ho.kj k3⟩
    ·clear hM S hs hb dy iN iE ho kh;rintro k w ⟨hk,M2,hM,S,hs,hb,dy,iN,iE,ho⟩;have kD:=λb hb=>(ho.base b hb).2
     refine T.aQ (ch G G G (ad (aI ?_)));refine bM G (λc21=>?_) (λc21=>?_)
     ·refine aR (aI (aS (T.aQ (ab G G ?_))));obtain⟨x,O8⟩:∃x,(du out)[k]? =some x:=⟨_,al k3⟩;obtain⟨i,q,d,t,rfl,CH,htq,Wz⟩:=Tz hg TD O8;have qb:((ia g (du out)).take k++(du out).drop k).length=(du out).length:=by rw[aY,aU,dS,OJ];omega
      have hxx:((ia g (du out)).take k++(du out).drop k)[k]? =some ((i:Int),(q:Int)):=by rw[jd ak5,aU,jB k3,CA,ti];exact O8
      obtain⟨go,gc,aiq,gz,hgb,hgM,Xv⟩:=ho.tC (ho.yQ k3);rw[qb]at gz;subst gz;refine jG (size:=2) dz j6 G G G k3 (q:=k*2) k3 ?_;refine cW (A:=RT.fo) cB G j6 q0 G G G (ho.ptr hxx) bY (λv22 HF=>?_);obtain⟨rfl,ra,rb⟩:=uI HF;refine eA M2 j6 G (λMI air aw7 aw8 uq xY=>?_);obtain⟨Fv,MJ⟩:∃M',M'=ins M2 MI:=⟨_,rfl⟩;rw[<-MJ]at xY;have uM:Fv MI:=by rw[MJ];exact .inl G
      change air.heap[MI]? =some (.cells #[.int .i64 0,.int .i64 0] _ _)at uq;replace hs:=hs.le xY.le;replace hb:=hb.le xY.le;replace dy:=dy.le xY.le;replace iN:=iN.le xY.le;replace iE:=iE.le xY.le;replace ho:=ho.aE xY;replace hM:=xY.lt hM;have:=S.size;replace S:=S.aw xY;refine aB G G ?_;refine ej (M:=Fv) (vs:=[.int .i64 (i:Int),.int .i64 (q:Int)]) j6 G G ab1 rfl rfl uq uM (λws gs ss=>?_);have:=ae uq;replace uM:=(ss.mem _ this).2 uM;replace hs:=hs.le ss.le;replace hb:=hb.le ss.le;replace dy:=dy.le ss.le;replace iN:=iN.le ss.le;replace iE:=iE.le ss.le;replace ho:=ho.step ss (λb hb hk=>by have hk:b=MI:=hk;have:=kD b hb;omega);replace hM:=ss.lt hM;have:=S.size;replace S:=S.trans ss (λk hk h=>by have h:_=_:=h;subst h;first|(exfalso;omega)|(show _<=_;omega)|exact⟨by first|omega|assumption,(S.mem _ hk).1 ((ss.mem _ (ae uq)).1 uM)⟩|exact .inl rfl|exact .inr rfl|exact .inr (.inl rfl)|exact .inr (.inr rfl)|exact .inr (.inr (.inl rfl))|exact rfl);have TE:=gs;clear uq;have uq:=TE;clear TE;refine ad ?_;apply T.AO 13 mixed rfl rfl rfl rfl rfl;intro aDj asc;have Dd:=asc Fv;have:=ae uq;replace uM:=(Dd.mem _ this).2 uM;replace uq:=Dd.aP uq;replace hs:=hs.le Dd.le;replace hb:=hb.le Dd.le;replace dy:=dy.le Dd.le;replace iN:=iN.le Dd.le;replace iE:=iE.le Dd.le;replace ho:=ho.aE Dd;replace hM:=Dd.lt hM;have:=S.size;replace S:=S.aw Dd;refine ab G G (Rg.bL (ab G G (Rg.bL (ab G G (Rg.bL (Ak (len:=2) cB I3 G G G k3 (Rg.bL (aV aq G G G uq G (bc (v':= .int .i64 (i:Int)) G (Rg.bL ?_))))))))));have F3:(im g).length=g.length:=by unfold im;rw[ay]
      have pX:=(aj.1 CH).1;refine bX cn iJ G G G iN bY k3 (λu23 x_ eo asd=>?_);rw[an]at eo;obtain rfl:=ar (CH.symm.trans eo);refine Rg.bL ?_;refine bE ah G G G G G asd bY (λv23 Ti=>?_);refine Rg.bL (Ak (len:=2) cB I3 G G G k3 (Rg.bL (aV aq G G G uq G (bc (v':= .int .i64 (q:Int)) G (Rg.bL ?_)))));have hql:=(aj.1 htq).1;refine bX ah I3 G G G Ti bY k3 (λaDl x_ eo ais=>?_);rw[an]at eo;obtain rfl:=ar (htq.symm.trans eo);refine Rg.bL ?_;refine bE aq G G G G G ais bY (λaw9 acj=>?_);obtain⟨rfl,hrd⟩:=ze.1 acj;refine Rg.bL (jG (size:=2) dz j6 G G G k3 (q:=k*2) k3 (Rg.bL (Rg.uK (o:=k*2) (len:=2) cB I3 G G G k3 (Rg.bL (dD ?_)))));obtain⟨cur,ue,O2,Zo,W8,⟨u0,dT,o5⟩,TF⟩:=ho.Ys hxx;refine cF (M:=Fv) I3 G G ue dT G O2 (λaxa ait zI=>?_);have ig:=TF _ _ _ hrd ait ((zI.mem _ (ae ue)).2 O2);replace hs:=hs.le zI.le;replace hb:=hb.le zI.le;replace dy:=dy.le zI.le;replace iN:=iN.le zI.le;replace iE:=iE.le zI.le;replace S:=S.cL zI (λb hb=>by have hb:b=go:=hb;omega);replace hM:=zI.lt hM;replace ho:=ig;clear ig;refine ad (aH (bG G G G k3 (ab G G (ad ?_))));refine⟨G,k+1,a89,?_,?_⟩
      ·refine ⟨by omega,_,hM,S,hs,hb,dy,iN,iE,?_⟩;rw[MG OJ hxx Wz]at ho;exact ho
      ·omega
     ·refine cO (T.aQ ?_);refine eA M2 E4 G (λgD aiu axb axc TG xZ=>?_);obtain⟨K0,MK⟩:∃M',M'=ins M2 gD:=⟨_,rfl⟩;rw[<-MK]at xZ;have Fw:K0 gD:=by rw[MK];exact .inl G
      change aiu.heap[gD]? =some (.cells #[.slice none 0 0,.slice none 0 0,.slice none 0 0,.slice none 0 0] _ _)at TG;replace hs:=hs.le xZ.le;replace hb:=hb.le xZ.le;replace dy:=dy.le xZ.le;replace iN:=iN.le xZ.le;replace iE:=iE.le xZ.le;replace ho:=ho.aE xZ;replace hM:=xZ.lt hM;have:=S.size;replace S:=S.aw xZ;refine ad (aI (T.aQ ?_));have ack:(ia g (du out)).take k++(du out).drop k=(ia g (du out)):=by rw[aL k3,gL k3,eJ]
      rw[ack]at ho;refine ab G G ?_;have gz:=ho.view (hn:=by decide) (by rw[OJ];omega);replace Fw:rm K0 vo _:=⟨Fw,by first|exact ho.eu TG q0|(intro h;have:=(ho.base _ h).1;omega)⟩;replace hs:=hs.le (ed _ vo _);replace hb:=hb.le (ed _ vo _);replace dy:=dy.le (ed _ vo _);replace iN:=iN.le (ed _ vo _);replace iE:=iE.le (ed _ vo _);replace hM:Lt (rm K0 vo) _:=λb hb=>hM b hb.1
      replace S:=S.freeze (v:=vo) (λb hb=>by have:=(ho.base b hb).1;omega);clear ho;refine bK dz G gz G (ab G G (ad (aS ?_)));refine dg (σ:=Nat×Value×Value) (λq=>[(0,v0),(8,vk),(15,vo),(19,.pointer (some ⟨gD,0,none⟩)),(102,vo),(103,.int .i64 ((ia g (du out)).length:Int)),(104,.int .i64 (q.1:Int))]) (λq w=>q.1<=(ia g (du out)).length/\∃M',Lt M' w/\Step M w0 M' w aA/\(((RT.se).ptr).sl).V M' w (g.map λp=>wV (fa p.1)) v0/\(RT.Ur.sl).V M' w bs v1/\nF M' w g bs/\(RT.str.sl.sl).V M' w (g.map λp=>keysOf p.1) vk/\(RT.fo.sl).V M' w (ia g (du out)) vo/\w.heap[gD]? =some (.cells #[q.2.1,q.2.2,.slice none 0 0,.slice none 0 0] 72 (0,0))/\M' gD/\Own (RT.int .i64) 3 M' w w0.heap.size q.2.1 ((((ia g (du out)).map (fy g)).take q.1).map (·.1.1))/\Own (RT.int .i64) 3 M' w w0.heap.size q.2.2 ((((ia g (du out)).map (fy g)).take q.1).map (·.2))/\fL q.2.1 q.2.2) (λq=>(ia g (du out)).length-q.1) (0,.slice none 0 0,.slice none 0 0) a89 ?_ ?_
      ·exact⟨bC _,_,hM,S,hs,hb,dy,iE,gz,TG,Fw,dh _ _ _ _ _,dh _ _ _ _ _,fL.nil _⟩
      ·clear hM S hs hb dy iN iE gz;rintro⟨k,vi,vq⟩ w ⟨hk,M3,hM,S,hs,hb,dy,iE,gz,gp,cV,dB,eN,qt⟩;dsimp only at hk gp dB eN qt ⊢;have hbz:=ae gp;have x4:=λb hb=>(dB.base b hb).2
       have x5:=λb hb=>(eN.base b hb).2
       refine T.aQ (ch G G G (ad (aI ?_)));refine bM G (λc27=>?_) (λc27=>?_)
       ·refine aR (aI (aS (T.aQ ?_)));obtain⟨x,O8⟩:∃x,(ia g (du out))[k]? =some x:=⟨_,al k3⟩;obtain⟨i,d,e,rfl,hek,L,a,ke,Uz,had⟩:=zq.at_ k x O8;have NO:(g.map λp=>wV (fa p.1))[i]? =some (wV (fa L)):=by rw[bj,ke];rfl
        have pX:=(aj.1 ke).1;refine bX dz j6 G G G gz bY k3 (λu28 x_ eo Tj=>?_);rw[an]at eo;obtain rfl:=ar (O8.symm.trans eo);refine cW (A:=RT.fo) cB G j6 q0 G G G Tj bY (λv28 asf=>?_);obtain⟨rfl,ra,rb⟩:=uI asf;refine eA M3 j6 G (λx7 aiv axe axf ib sw=>?_);obtain⟨y5,ML⟩:∃M',M'=ins M3 x7:=⟨_,rfl⟩;rw[<-ML]at sw;have iW:y5 x7:=by rw[ML];exact .inl G
        change aiv.heap[x7]? =some (.cells #[.int .i64 0,.int .i64 0] _ _)at ib;have:=ae gp;replace cV:=(sw.mem _ this).2 cV;replace gp:=sw.aP gp;replace hs:=hs.le sw.le;replace hb:=hb.le sw.le;replace dy:=dy.le sw.le;replace iE:=iE.le sw.le;replace gz:=gz.le sw.le;replace dB:=dB.aE sw;replace eN:=eN.aE sw;replace hM:=sw.lt hM;have:=S.size;replace S:=S.aw sw;refine ej (M:=y5) (vs:=[.int .i64 (i:Int),.int .i64 (d:Int)]) j6 G G ab1 rfl rfl ib iW (λws gs ss=>?_);have:=ae gp;replace cV:=(ss.mem _ this).2 cV;replace gp:=ss.keep gp a05;have:=ae ib;replace iW:=(ss.mem _ this).2 iW;replace hs:=hs.le ss.le;replace hb:=hb.le ss.le;replace dy:=dy.le ss.le;replace iE:=iE.le ss.le;replace gz:=gz.le ss.le;replace dB:=dB.step ss (λc hc h=>by first|exact dB.eu gp q0 ((show c=gD from h)▸hc)|(have h:c=x7:=h;have:=x4 c hc;omega));replace eN:=eN.step ss (λc hc h=>by first|exact eN.eu gp q0 ((show c=gD from h)▸hc)|(have h:c=x7:=h;have:=x5 c hc;omega));replace hM:=ss.lt hM;have:=S.size;replace S:=S.trans ss (λk hk h=>by have h:_=_:=h;subst h;first|(exfalso;omega)|(show _<=_;omega)|exact⟨by first|omega|assumption,(S.mem _ hk).1 ((ss.mem _ (ae ib)).1 iW)⟩|exact .inl rfl|exact .inr rfl|exact .inr (.inl rfl)|exact .inr (.inr rfl)|exact .inr (.inr (.inl rfl))|exact rfl);have TH:=gs;clear ib;have ib:=TH;clear TH;refine ad ?_;apply T.ab9 24 [0,1,2,3,4,5,6,7,8,12,13,14,15,16,17,18,19,20,24,9,10,11,21,22,23,25,26,27] 19 [0,1,9,10,11,12,13,14,15,16,17,18] 6 (λb=>gy vi b\/gy vq b) mixed
        ·simp+decide only[loose,Cf,zY,tx,fe,je,gV,gX,fg,dA,gI,lN,cond_true,cond_false,Nat.reduceBEq,Nat.reduceAdd,beq_self_eq_true];rfl
        ·rfl
        ·rfl
        ·rfl
        ·rfl
        ·rfl
        ·rfl
        ·rfl
        intro acn aco;have nT:=aco y5;have:=ae gp;replace cV:=(nT.mem _ this).2 cV;replace gp:=nT.aP gp;have:=ae ib;replace iW:=(nT.mem _ this).2 iW;replace ib:=nT.aP ib;replace hs:=hs.le nT.le;replace hb:=hb.le nT.le;replace dy:=dy.le nT.le;replace iE:=iE.le nT.le;replace gz:=gz.le nT.le;replace dB:=dB.aE nT;replace eN:=eN.aE nT;replace hM:=nT.lt hM;have:=S.size;replace S:=S.aw nT;refine bR (o':=0) bT G G iJ q0 G G (Rg.bL (aV ah G G G gp G (bc (v':=vi) G (Rg.bL (ab G G (Rg.bL (Ak (len:=2) cB I3 G G G k3 (Rg.bL (aV aq G G G ib G (bc (v':= .int .i64 (i:Int)) G (Rg.bL ?_)))))))))));refine bX fS O4 G G G hs bY k3 (λasg x_ eo TL=>?_);rw[an]at eo;obtain rfl:=ar (NO.symm.trans eo);refine Rg.bL ?_;refine bE kC G G G G G TL bY (λaDn aiw=>?_);have Is:=oQ.1 aiw;obtain⟨aDo,rfl⟩:=Is.iZ;refine Rg.bL (Ak (len:=2) cB I3 G G G k3 (Rg.bL (aV aq G G G ib G (bc (v':= .int .i64 (d:Int)) G (Rg.bL (bR (o':=1) bT G G iJ q0 G G (Rg.bL (aV ah G G G gp G (bc (v':=vq) G (Rg.bL (ab G G ?_)))))))))));refine Rg.bL (Ak (len:=2) cB I3 G G G k3 (Rg.bL (aV aq G G G ib G (bc (v':= .int .i64 (i:Int)) G (Rg.bL ?_)))));refine bX fS O4 G G G hs bY k3 (λaxg x_ eo TM=>?_);rw[an]at eo;obtain rfl:=ar (NO.symm.trans eo);refine Rg.bL ?_;refine bE kC G G G G G TM bY (λaxh acp=>?_)
        have rO:=oQ.1 acp;obtain⟨axi,rfl⟩:=rO.iZ;refine Rg.bL (Ak (len:=2) cB I3 G G G k3 (Rg.bL (aV aq G G G ib G (bc (v':= .int .i64 (d:Int)) G (Rg.bL (bR (o':=0) bT G G iJ q0 G G (Rg.bL (dD ?_))))))));obtain⟨bb,oo,cs_,ee_,fr_,rfl,lx,hnM⟩:=TM.float;refine ⟨eQ ⟨fk bT G iJ q0,⟨dQ G gp (λh=>h.elim (dB.eu gp q0) (eN.eu gp q0)),⟨fk bT G iJ q0,⟨dQ G gp (λh=>h.elim (dB.eu gp q0) (eN.eu gp q0)),⟨ey,⟨bO.idx,⟨dQ G ib (λh=>h.elim (λh=>by have:=x4 _ h;omega) (λh=>by have:=x5 _ h;omega)),⟨bO.idx,⟨dQ rfl lx (λh=>hnM (h.elim (dB.mut_ _) (eN.mut_ _))),⟨bO.idx,⟨dQ rfl ib (λh=>h.elim (λh=>by have:=x4 _ h;omega) (λh=>by have:=x5 _ h;omega)),⟨fk bT rfl iJ q0,trivial⟩⟩⟩⟩⟩⟩⟩⟩⟩⟩⟩⟩,?_⟩;have kp:=fq (λb=>gy vi b\/gy vq b) acn;have ash:=(KT Is).1;refine a8 G G E60 (R9 _ Is) (λaDs aDt hc=>?_);obtain⟨rfl,rfl⟩:=hc;refine bc (v':= .int .i64 e.1.1) (congrArg (Value.int .i64) (R8 (by show(L.map _)[d]? =_;rw[bj,Uz];rfl))) ?_;refine(fun(kp:eB _ _ _)=>ad ⟨G,G,λ_=>kp,?_⟩) a00;refine dP (A:=RT.int .i64) (hn:=by decide) (M:=y5) ah I3 q0 G G hM (gw (ash _ (by show _∈L.map _;exact ck.2 ⟨e,au Uz,G⟩))) (.inr ⟨G,G⟩) (λasi asj WA lK=>?_);have:=ae gp;replace cV:=(lK.mem _ this).2 cV;replace gp:=lK.aP gp;have:=ae ib;replace iW:=(lK.mem _ this).2 iW
        replace ib:=lK.aP ib;replace hs:=hs.le lK.le;replace hb:=hb.le lK.le;replace dy:=dy.le lK.le;replace iE:=iE.le lK.le;replace gz:=gz.le lK.le;replace Is:=Is.le q0 lK.le;replace rO:=rO.le q0 lK.le;replace dB:=dB.aE lK;replace eN:=eN.aE lK;replace hM:=lK.lt hM;have:=S.size;replace S:=S.aw lK;refine(fun(kp:eB _ _ _)=>ad ⟨G,G,λ_=>kp,?_⟩) a00;refine fI (M:=y5) (base:=w0.heap.size) ah I3 rfl rfl rfl rfl dB WA bY a03 a03 S.size (λur aix wT jY K1=>?_);generalize ji (y5) ur=It at wT jY;have AB:fL ur vq:=qt.grown K1 (λb hb=>(eN.base b hb).2);replace eN:=eN.step jY (λb hb h=>qt b h hb);replace cV:=(jY.mem _ (ae gp)).2 cV;replace gp:=jY.keep gp (λh=>by first|exact dB.eu gp q0 h|(have:=(dB.base _ h).2;omega));replace iW:=(jY.mem _ (ae ib)).2 iW;replace ib:=jY.keep ib (λh=>by first|exact dB.eu ib q0 h|(have:=(dB.base _ h).2;omega));replace hs:=hs.le jY.le;replace hb:=hb.le jY.le;replace dy:=dy.le jY.le;replace iE:=iE.le jY.le;replace gz:=gz.le jY.le;replace rO:=rO.le q0 jY.le;replace S:=S.cC jY dB (aN _);replace hM:=jY.lt hM;replace dB:=wT;clear wT;refine(fun(kp:eB _ _ _)=>ad ⟨G,G,λ_=>kp,?_⟩) (kp.go jY (λb hb h=> .inl h));have asl:=(KT rO).2;refine a8 G G E58 (DZ _ rO) (λaxk axl hc=>?_);obtain⟨rfl,rfl⟩:=hc;refine bc (v':= .int .i64 e.2) (congrArg (Value.int .i64) (R8 (by show(L.map _)[d]? =_;rw[bj,Uz];rfl))) ?_;refine(fun(kp:eB _ _ _)=>ad ⟨G,G,λ_=>kp,?_⟩) a00
        refine dP (A:=RT.int .i64) (hn:=by decide) (M:=It) ah I3 q0 G G hM (gw (asl _ (by show _∈L.map _;exact ck.2 ⟨e,au Uz,G⟩))) (.inr ⟨G,G⟩) (λasm aso WB mc=>?_);have:=ae gp;replace cV:=(mc.mem _ this).2 cV;replace gp:=mc.aP gp;have:=ae ib;replace iW:=(mc.mem _ this).2 iW;replace ib:=mc.aP ib;replace hs:=hs.le mc.le;replace hb:=hb.le mc.le;replace dy:=dy.le mc.le;replace iE:=iE.le mc.le;replace gz:=gz.le mc.le;replace rO:=rO.le q0 mc.le;replace dB:=dB.aE mc;replace eN:=eN.aE mc;replace hM:=mc.lt hM;have:=S.size;replace S:=S.aw mc;refine(fun(kp:eB _ _ _)=>ad ⟨G,G,λ_=>kp,?_⟩) a00;refine fI (M:=It) (base:=w0.heap.size) ah I3 rfl rfl rfl rfl eN WB bY a03 a03 S.size (λMM axm K2 pD acq=>?_);generalize ji (It) MM=YO at K2 pD;have WC:fL MM ur:=AB.symm.grown acq (λb hb=>(dB.base b hb).2);replace dB:=dB.step pD (λb hb h=>AB.symm b h hb);replace cV:=(pD.mem _ (ae gp)).2 cV;replace gp:=pD.keep gp (λh=>by first|exact eN.eu gp q0 h|(have:=(eN.base _ h).2;omega));replace iW:=(pD.mem _ (ae ib)).2 iW;replace ib:=pD.keep ib (λh=>by first|exact eN.eu ib q0 h|(have:=(eN.base _ h).2;omega));replace hs:=hs.le pD.le;replace hb:=hb.le pD.le;replace dy:=dy.le pD.le;replace iE:=iE.le pD.le;replace gz:=gz.le pD.le;replace S:=S.cC pD eN (aN _);replace hM:=pD.lt hM;replace eN:=K2;clear K2;refine(fun(kp:eB _ _ _)=>ad ⟨G,G,λ_=>kp,?_⟩) (kp.go pD (λb hb h=> .inr h))
        refine cF (M:=YO) iJ rfl rfl gp rfl ad5 cV (λacr TN mO=>?_);change acr.heap[_]? =some (Obj.cells #[ur,vq,.slice none 0 0,.slice none 0 0] _ _)at TN;have:=ae gp;replace cV:=(mO.mem _ this).2 cV;have:=ae ib;replace iW:=(mO.mem _ this).2 iW;replace ib:=mO.keep ib a05;replace hs:=hs.le mO.le;replace hb:=hb.le mO.le;replace dy:=dy.le mO.le;replace iE:=iE.le mO.le;replace gz:=gz.le mO.le;replace dB:=dB.step mO (λc hc h=>by first|exact dB.eu gp q0 ((show c=gD from h)▸hc)|(have h:c=x7:=h;have:=x4 c hc;omega));replace eN:=eN.step mO (λc hc h=>by first|exact eN.eu gp q0 ((show c=gD from h)▸hc)|(have h:c=x7:=h;have:=x5 c hc;omega));replace hM:=mO.lt hM;have:=S.size;replace S:=S.trans mO (λk hk h=>by have h:_=_:=h;subst h;first|(exfalso;omega)|(show _<=_;omega)|exact⟨by first|omega|assumption,(S.mem _ hk).1 ((mO.mem _ (ae gp)).1 cV)⟩|exact .inl rfl|exact .inr rfl|exact .inr (.inl rfl)|exact .inr (.inr rfl)|exact .inr (.inr (.inl rfl))|exact rfl);have Iu:=TN;clear gp;have gp:=Iu;clear Iu;refine ad ⟨G,G,λh=>absurd G h,bR (o':=1) bT G G iJ q0 G G (ad ⟨G,G,λh=>absurd G h,?_⟩)⟩;refine cF (M:=YO) iJ rfl rfl gp rfl (by obtain⟨_,_,he,_⟩:=eN.isSlice;rw[he];rfl) cV (λacs TO mP=>?_);change acs.heap[_]? =some (Obj.cells #[ur,MM,.slice none 0 0,.slice none 0 0] _ _)at TO;have:=ae gp;replace cV:=(mP.mem _ this).2 cV;have:=ae ib;replace iW:=(mP.mem _ this).2 iW;replace ib:=mP.keep ib a05;replace hs:=hs.le mP.le;replace hb:=hb.le mP.le;replace dy:=dy.le mP.le;replace iE:=iE.le mP.le;replace gz:=gz.le mP.le
        replace dB:=dB.step mP (λc hc h=>by first|exact dB.eu gp q0 ((show c=gD from h)▸hc)|(have h:c=x7:=h;have:=x4 c hc;omega));replace eN:=eN.step mP (λc hc h=>by first|exact eN.eu gp q0 ((show c=gD from h)▸hc)|(have h:c=x7:=h;have:=x5 c hc;omega));replace hM:=mP.lt hM;have:=S.size;replace S:=S.trans mP (λk hk h=>by have h:_=_:=h;subst h;first|(exfalso;omega)|(show _<=_;omega)|exact⟨by first|omega|assumption,(S.mem _ hk).1 ((mP.mem _ (ae gp)).1 cV)⟩|exact .inl rfl|exact .inr rfl|exact .inr (.inl rfl)|exact .inr (.inr rfl)|exact .inr (.inr (.inl rfl))|exact rfl);have Iu:=TO;clear gp;have gp:=Iu;clear Iu;refine ad ⟨G,G,λh=>absurd G h,iu (aH (bG G G G k3 (ab G G (ad ?_))))⟩;refine⟨G,(k+1,ur,MM),a89,?_,?_⟩
        ·refine⟨by dsimp only;omega,_,hM,S,hs,hb,dy,iE,gz,gp,cV,?_,?_,WC.symm⟩
         ·dsimp only;rw[bB,hek,bU,cG];exact dB
         ·dsimp only;rw[bB,hek,bU,cG];exact eN
        ·dsimp only;omega
       ·refine cO (T.aQ ?_);have FM:((ia g (du out)).map (fy g)).length=(ia g (du out)).length:=by rw[ay]
        rw[aL k3]at dB eN;refine ab G G (bK fS G hs G (bc (v':= .int .i64 (g.length:Int)) (by rw[pH]) ?_));refine Rg.mk0 (len:=g.length) (M3) cn iJ G G G G k3 k3 (λK3 wto zto aDv gto O9=>?_);obtain⟨Mto,aiy⟩:∃M',M'=ins (M3) K3:=⟨_,rfl⟩;rw[<-aiy]at O9
        have lB:Own ((RT.int .i64).sl) 37 Mto wto w0.heap.size (.slice (some ⟨K3,0,none⟩) g.length g.length) (List.replicate g.length []):=by
         refine⟨⟨List.replicate g.length (.slice none 0 0),⟨by rw[db,db];exact(fN _).symm,.inr ⟨K3,g.length,_,by rw[db],by have:=S.size;omega,gto,by rw[db];exact aN _,by unfold maxLen;omega,by rw[List.size_toArray,db];exact(fN _).symm,by rw[db];show(List.replicate _ _).toArray.toList.take (g.length*1)=_;rw[List.toList_toArray,fN,aL (by rw[db];exact aN _)]⟩⟩,Ee _⟩,λb hb=>by cases hb;rw[aiy];exact .inl G⟩
        clear gto;have:=ae gp;replace cV:=(O9.mem _ this).2 cV;replace gp:=O9.aP gp;replace hs:=hs.le O9.le;replace hb:=hb.le O9.le;replace dy:=dy.le O9.le;replace iE:=iE.le O9.le;replace gz:=gz.le O9.le;replace dB:=dB.aE O9;replace eN:=eN.aE O9;replace hM:=O9.lt hM;have:=S.size;replace S:=S.aw O9;refine Rg.bA G G (aI (T.aQ (ab G G (bK fS G hs G (bc (v':= .int .i64 (g.length:Int)) (by rw[pH]) (ab G G (ad (aS ?_))))))));refine dg (σ:=Nat) (λi=>[(0,v0),(8,vk),(15,vo),(19,.pointer (some ⟨gD,0,none⟩)),(22,.slice (some ⟨K3,0,none⟩) g.length g.length),(138,v0),(139,.int .i64 (g.length:Int)),(140,.int .i64 (i:Int))]) (λi w=>i<=g.length/\∃M',Lt M' w/\Step M w0 M' w aA/\(((RT.se).ptr).sl).V M' w (g.map λp=>wV (fa p.1)) v0/\(RT.Ur.sl).V M' w bs v1/\nF M' w g bs/\(RT.str.sl.sl).V M' w (g.map λp=>keysOf p.1) vk/\(RT.fo.sl).V M' w (ia g (du out)) vo/\w.heap[gD]? =some (.cells #[vi,vq,.slice none 0 0,.slice none 0 0] 72 (0,0))/\M' gD/\Own (RT.int .i64) 3 M' w w0.heap.size vi (((ia g (du out)).map (fy g)).map (·.1.1))/\Own (RT.int .i64) 3 M' w w0.heap.size vq (((ia g (du out)).map (fy g)).map (·.2))/\(∃tos:List (List Int),tos.length=g.length/\(∀(j:Nat) (p:List En×List Bool),j<i->g[j]? =some p->Plc (ia g (du out)) j p.1.length (tos.getD j []))/\Own ((RT.int .i64).sl) 37 M' w w0.heap.size (.slice (some ⟨K3,0,none⟩) g.length g.length) tos)) (λi=>g.length-i) 0 ap1 ?_ ?_
        ·exact⟨bC _,_,hM,S,hs,hb,dy,iE,gz,gp,cV,dB,eN,_,db ..,(λj p h=>by omega),lB⟩
        ·clear hM S hs hb dy iE gz gp cV dB eN lB;rintro i w ⟨hi,M4,hM,S,hs,hb,dy,iE,gz,gp,cV,dB,eN,tos,Ga,aiz,lB⟩;refine T.aQ (ch G G G (ad (aI ?_)));refine bM G (λc33=>?_) (λc33=>?_)
         ·refine aR (aI (aS (T.aQ (ab G G ?_))));obtain⟨p,ke⟩:∃p,g[i]? =some p:=⟨_,al k3⟩;have FP:=au ke;have NO:(g.map λp=>wV (fa p.1))[i]? =some (wV (fa p.1)):=by rw[bj,ke];rfl
          obtain⟨TA,uQ⟩:=hg p FP;have Oc:=OI p FP;refine bX fS O4 G G G hs bY k3 (λu34 x_ eo asp=>?_);rw[an]at eo;obtain rfl:=ar (NO.symm.trans eo);refine bE kC G G G G G asp bY (λv34 asq=>?_);have WD:=oQ.1 asq;obtain⟨a34,rfl⟩:=WD.iZ;refine aB G G (Rg.bA G G (aH (ab G G (ab G G (ab G G (ab G G (ab G G ?_)))))));refine a8 G G E34 (DY _ WD) (λaDy aDz hc=>?_);obtain⟨rfl,rfl⟩:=hc;refine bc (v':= .int .i64 (p.1.length:Int)) (by show Value.int .i64 (((p.1.map _).length:Nat):Int)=_;rw[ay]) ?_;refine a8 G G E61 (HM (i:=(i:Int)) hM gz (n:=p.1.length) k3) (λaDA aDB hc=>?_);obtain⟨aDC,xs,TQ,asr,_,ass⟩:=hc;obtain⟨uV,qE⟩:=asr.Ko (hn:=by decide) My ass (aN _) hM (by rw[TQ.1];omega);have:=ae gp;replace cV:=(qE.mem _ this).2 cV;replace gp:=qE.aP gp;replace hs:=hs.le qE.le;replace hb:=hb.le qE.le;replace dy:=dy.le qE.le;replace iE:=iE.le qE.le;replace gz:=gz.le qE.le;replace WD:=WD.le q0 qE.le;replace dB:=dB.aE qE;replace eN:=eN.aE qE;replace lB:=lB.aE qE;replace hM:=qE.lt hM;have:=S.size;replace S:=S.aw qE;refine jG (size:=1) cn iJ G G G k3 (q:=i) k3 ?_;refine Rg.abE (A:=((RT.int .i64).sl)) (M:=M4) ⟨G,G⟩ iJ G G lB k3 uV (λaDD aiA Cg=>?_);have ast:∀c,vi.ownBlock=some c->¬c=K3:=λc hc h=>(dB.cr lB q0 hc) (by rw[h];rfl)
          have asu:∀c,vq.ownBlock=some c->¬c=K3:=λc hc h=>(eN.cr lB q0 hc) (by rw[h];rfl)
          replace dB:=dB.step Cg ast;replace eN:=eN.step Cg asu;replace cV:=(Cg.mem _ (ae gp)).2 cV;replace gp:=Cg.keep gp (λh=>lB.eu gp q0 (by rw[show gD=K3 from h];rfl));replace hs:=hs.le Cg.le;replace hb:=hb.le Cg.le;replace dy:=dy.le Cg.le;replace iE:=iE.le Cg.le;replace gz:=gz.le Cg.le;have aDE:=(lB.base K3 rfl).1;replace S:=S.cL Cg (λb hb=>by have hb:b=K3:=hb;omega);replace hM:=Cg.lt hM;replace lB:=aiA;clear aiA;refine ad (aH (bG G G G k3 (ab G G (ad ?_))));refine⟨G,i+1,ap1,?_,?_⟩
          ·refine⟨by omega,_,hM,S,hs,hb,dy,iE,gz,gp,cV,dB,eN,_,by rw[fX];exact Ga,λj p' hj hg'=>?_,lB⟩;rw[ax,dN];rcases cQ j i with h|h
           ·rw[if_neg k3,<-ax];exact aiz j p' h hg'
           ·obtain rfl:i=j:=by omega
            rw[ke]at hg';cases hg';rw[if_pos rfl,if_pos k3];exact TQ
          ·omega
         ·refine cO (aI (T.aQ ?_));have MN:HO g (ia g (du out)) tos:=⟨Ga,λj p h=>aiz j p (by have:=(aj.1 h).1;omega) h⟩;obtain⟨UA,aiB⟩:∃v,v=Value.slice (some ⟨K3,0,none⟩) g.length g.length:=⟨_,rfl⟩;rw[<-aiB]at lB;refine ab G G ?_;have oT:=lB.view (hn:=by decide) (by rw[Ga];omega);replace cV:rm M4 UA _:=⟨cV,by first|exact lB.eu gp q0|(intro h;have:=(lB.base _ h).1;omega)⟩;replace hs:=hs.le (ed _ UA _);replace hb:=hb.le (ed _ UA _);replace dy:=dy.le (ed _ UA _);replace iE:=iE.le (ed _ UA _);replace gz:=gz.le (ed _ UA _);replace dB:=dB.uY (v:=UA) (λb hb=>by first|exact dB.cr lB q0 hb|exact acu b hb);replace eN:=eN.uY (v:=UA) (λb hb=>by first|exact eN.cr lB q0 hb|exact acv b hb);replace hM:Lt (rm M4 UA) _:=λb hb=>hM b hb.1
          replace S:=S.freeze (v:=UA) (λb hb=>by have:=(lB.base b hb).1;omega);clear lB;subst aiB;have Dq:=Fu (ks:=g.map λp=>keysOf p.1) (a:=100000) (λl hl=>by obtain⟨p,hp,rfl⟩:=ck.1 hl;exact FR p hp);rw[ay]at Dq;have asv:100000*g.length<=100000*1000:=Cs _ (show g.length<=1000 by omega);have zi:=D8 (g.map λp=>keysOf p.1);obtain⟨hJu,hJm⟩:=qz (g.map λp=>keysOf p.1);refine a8 G G E62 (Ov _ hM iE k3) (λrJ w37 hc=>?_);obtain⟨M37,hoJ,_,s37⟩:=hc;obtain⟨ko,Ag⟩:=hoJ.Ko (hn:=by decide) pC s37 (aN _) hM k3;have:=ae gp;replace cV:=(Ag.mem _ this).2 cV;replace gp:=Ag.aP gp;replace hs:=hs.le Ag.le;replace hb:=hb.le Ag.le;replace dy:=dy.le Ag.le;replace iE:=iE.le Ag.le;replace gz:=gz.le Ag.le;replace oT:=oT.le Ag.le;replace dB:=dB.aE Ag;replace eN:=eN.aE Ag;replace hM:=Ag.lt hM;have:=S.size;replace S:=S.aw Ag;refine bK az G ko G (ab G G (ad (aS ?_)));refine dg (σ:=Nat×Value×Value) (λq=>[(0,v0),(19,.pointer (some ⟨gD,0,none⟩)),(22,.slice (some ⟨K3,0,none⟩) g.length g.length),(155,rJ),(156,.int .i64 ((gC (g.map λp=>keysOf p.1)).length:Int)),(157,.int .i64 (q.1:Int))]) (λq w=>q.1<=(gC (g.map λp=>keysOf p.1)).length/\∃M',Lt M' w/\Step M w0 M' w aA/\(((RT.se).ptr).sl).V M' w (g.map λp=>wV (fa p.1)) v0/\(RT.str.sl).V M' w (gC (g.map λp=>keysOf p.1)) rJ/\(((RT.int .i64).sl).sl).V M' w tos (.slice (some ⟨K3,0,none⟩) g.length g.length)/\w.heap[gD]? =some (.cells #[vi,vq,q.2.1,q.2.2] 72 (0,0))/\M' gD/\Own (RT.int .i64) 3 M' w w0.heap.size vi (((ia g (du out)).map (fy g)).map (·.1.1))/\Own (RT.int .i64) 3 M' w w0.heap.size vq (((ia g (du out)).map (fy g)).map (·.2))/\Own RT.str 9 M' w w0.heap.size q.2.1 (((gC (g.map λp=>keysOf p.1)).take q.1).filter (λk=> !(pk ((ia g (du out)).map (fy g)) k).isEmpty))/\Own (RT.po.sl) 80 M' w w0.heap.size q.2.2 ((((gC (g.map λp=>keysOf p.1)).take q.1).filter (λk=> !(pk ((ia g (du out)).map (fy g)) k).isEmpty)).map (pk ((ia g (du out)).map (fy g))))) (λq=>(gC (g.map λp=>keysOf p.1)).length-q.1) (0,.slice none 0 0,.slice none 0 0) a10 ?_ ?_
          ·exact⟨bC _,_,hM,S,hs,ko,oT,gp,cV,dB,eN,dh _ _ _ _ _,dh _ _ _ _ _⟩
          ·clear hM S hs hb dy iE gz ko oT gp cV dB eN;rintro⟨qk,wX,FU⟩ w ⟨hq,M5,hM,S,hs,ko,oT,gp,cV,dB,eN,hok,dR⟩;dsimp only at hq gp hok dR ⊢;refine T.aQ (ch G G G (ad (aI ?_)));refine bM G (λc38=>?_) (λc38=>?_)
           ·refine aR (aI (aS (T.aQ ?_)));obtain⟨key,Pb⟩:∃x,(gC (g.map λp=>keysOf p.1))[qk]? =some x:=⟨_,al k3⟩;refine bX az I9 G G G ko bY k3 (λu39 x_ eo asy=>?_);rw[an]at eo;obtain rfl:=ar (Pb.symm.trans eo);refine bE aG G G G G G asy bY (λasz TR=>?_);obtain⟨rfl,AN⟩:=j8.1 TR;refine Rg.bA G G (T.aQ (Rg.bA G G (aI (T.aQ (ab G G (bK fS G hs G (bc (v':= .int .i64 (g.length:Int)) (by rw[pH]) ?_)))))));refine ab G G (ad (aS ?_));refine dg (σ:=Nat×Value) (λq=>[(0,v0),(19,.pointer (some ⟨gD,0,none⟩)),(22,.slice (some ⟨K3,0,none⟩) g.length g.length),(155,rJ),(156,.int .i64 ((gC (g.map λp=>keysOf p.1)).length:Int)),(157,.int .i64 (qk:Int)),(26,.string ⟨key.toArray⟩),(27,q.2),(161,v0),(162,.int .i64 (g.length:Int)),(163,.int .i64 (q.1:Int))]) (λq w=>q.1<=g.length/\∃M',Lt M' w/\Step M w0 M' w aA/\(((RT.se).ptr).sl).V M' w (g.map λp=>wV (fa p.1)) v0/\(RT.str.sl).V M' w (gC (g.map λp=>keysOf p.1)) rJ/\(((RT.int .i64).sl).sl).V M' w tos (.slice (some ⟨K3,0,none⟩) g.length g.length)/\w.heap[gD]? =some (.cells #[vi,vq,wX,FU] 72 (0,0))/\M' gD/\Own (RT.int .i64) 3 M' w w0.heap.size vi (((ia g (du out)).map (fy g)).map (·.1.1))/\Own (RT.int .i64) 3 M' w w0.heap.size vq (((ia g (du out)).map (fy g)).map (·.2))/\Own RT.str 9 M' w w0.heap.size wX (((gC (g.map λp=>keysOf p.1)).take qk).filter (λk=> !(pk ((ia g (du out)).map (fy g)) k).isEmpty))/\Own (RT.po.sl) 80 M' w w0.heap.size FU ((((gC (g.map λp=>keysOf p.1)).take qk).filter (λk=> !(pk ((ia g (du out)).map (fy g)) k).isEmpty)).map (pk ((ia g (du out)).map (fy g))))/\Own RT.po 83 M' w w0.heap.size q.2 (Ad g tos key q.1)) (λq=>g.length-q.1) (0,.slice none 0 0) (.cons G a16) ?_ ?_
            ·exact⟨bC _,_,hM,S,hs,ko,oT,gp,cV,dB,eN,hok,dR,dh _ _ _ _ _⟩
            ·clear hM S hs ko oT gp cV dB eN hok dR;rintro⟨i,zJ⟩ w ⟨hi,M6,hM,S,hs,ko,oT,gp,cV,dB,eN,hok,dR,iA⟩;dsimp only at hi iA ⊢;have acw:=Im (k:=key) (tos:=tos) hg OI hi;refine T.aQ (ch G G G (ad (aI ?_)));refine bM G (λc42=>?_) (λc42=>?_)
             ·refine aR (aI (aS (T.aQ (ab G G ?_))));obtain⟨p,ke⟩:∃p,g[i]? =some p:=⟨_,al k3⟩;have FP:=au ke;have NO:(g.map λp=>wV (fa p.1))[i]? =some (wV (fa p.1)):=by rw[bj,ke];rfl
              obtain⟨TA,uQ⟩:=hg p FP;have Oc:=OI p FP;refine bX fS O4 G G G hs bY k3 (λu43 x_ eo Sv=>?_);rw[an]at eo;obtain rfl:=ar (NO.symm.trans eo);refine bE kC G G G G G Sv bY (λv43 Ig=>?_);have De:=oQ.1 Ig;obtain⟨a43,rfl⟩:=De.iZ;refine aB G G (Rg.bA G G ?_);apply T.Gc [0,1,2,4,5,6,7,3,8,9,10] 7 [0,3,4,5,6] 2 aA mixed
              ·simp+decide only[zY,tx,fe,je,gV,gX,fg,dA,gI,lN,cond_true,cond_false,Nat.reduceBEq,Nat.reduceAdd,beq_self_eq_true];rfl
              ·rfl
              ·rfl
              ·rfl
              ·rfl
              ·rfl
              ·rfl
              intro asA asB;have y6:=asB M6;have:=ae gp;replace cV:=(y6.mem _ this).2 cV;replace gp:=y6.aP gp;replace hs:=hs.le y6.le;replace ko:=ko.le y6.le;replace oT:=oT.le y6.le;replace De:=De.le q0 y6.le;replace dB:=dB.aE y6;replace eN:=eN.aE y6;replace hok:=hok.aE y6;replace dR:=dR.aE y6;replace iA:=iA.aE y6;replace hM:=y6.lt hM;have:=S.size;replace S:=S.aw y6;refine ab G G (Rg.bL (ab G G (Rg.bL (ab G G (Rg.bL (ab G G (Rg.bL (ab G G (Rg.bL ?_)))))))));obtain⟨tt,htt⟩:∃x,tos[i]? =some x:=⟨_,al k3⟩;have htd:tos.getD i []=tt:=by rw[ax,htt];rfl
              have TQ:=MN.2 i p ke;rw[htd]at TQ;refine bX cn iJ G G G oT bY k3 (λaDI x_ eo YP=>?_);rw[an]at eo;obtain rfl:=ar (htt.symm.trans eo);refine Rg.bL ?_;refine bE ah G G G G G YP bY (λaDJ Ch=>?_);refine Rg.bL (dD ?_);obtain⟨bb,oo,cs_,ee_,fr_,rfl,lx,hnM⟩:=YP.float;refine ⟨eQ ⟨ey,⟨ey,⟨ey,⟨bO.idx,⟨dQ G lx (λh=>h),trivial⟩⟩⟩⟩⟩,?_⟩;have kp:=fq aA asA;have acx:=mJ key p.1 0 (jQ TA);refine a8 G G E36 (KS (ls:=(keysOf p.1).map (pk p.1)) (k:=key) _ hM De (lD _) (MH TA k3)) (λaDK aDL hc=>?_);obtain⟨pZ,x8⟩:=hc;have asC:V5 (wV (fa p.1)).2.2.1 ((keysOf p.1).map (pk p.1)) key=pk p.1 key:=Sk _;rw[asC]at pZ;have:=ae gp;replace cV:=(x8.mem _ this).2 cV;replace gp:=x8.aP gp;replace hs:=hs.le x8.le;replace ko:=ko.le x8.le;replace oT:=oT.le x8.le;replace De:=De.le q0 x8.le;replace Ch:=Ch.le x8.le;replace dB:=dB.aE x8;replace eN:=eN.aE x8;replace hok:=hok.aE x8;replace dR:=dR.aE x8;replace iA:=iA.aE x8;replace hM:=x8.lt hM;have:=S.size;replace S:=S.aw x8;refine(fun(kp:eB _ _ _)=>ad ⟨G,G,λ_=>kp,?_⟩) a00;refine a8 G G E63 (KE _ hM pZ Ch (by have:(pk p.1 key).length<=p.1.length:=acx.1;omega) (λx hx=>by have:=acx.2 x hx;rw[TQ.1];omega)) (λaDM aDN hc=>?_);obtain⟨aDO,aiD,_,tb⟩:=hc;have tq:=wR tt (pk p.1 key);have aDP:(pk p.1 key).length<=p.1.length:=acx.1;have hmv:=gT (hn:=by decide) hM tb aiD k3;replace tb:=tb.back;have:=ae gp;replace cV:=(tb.mem _ this).2 cV;replace gp:=tb.aP gp
              replace hs:=hs.le tb.le;replace ko:=ko.le tb.le;replace oT:=oT.le tb.le;replace De:=De.le q0 tb.le;replace Ch:=Ch.le tb.le;replace pZ:=pZ.le tb.le;replace dB:=dB.aE tb;replace eN:=eN.aE tb;replace hok:=hok.aE tb;replace dR:=dR.aE tb;replace iA:=iA.aE tb;replace hM:=tb.lt hM;have:=S.size;replace S:=S.aw tb;refine(fun(kp:eB _ _ _)=>ad ⟨G,G,λ_=>kp,?_⟩) a00;refine cN (M:=M6) (base:=w0.heap.size) bu ng G G G G iA hmv bY k3 k3 (S.size) (λaiE axq axr acy oW=>?_);have:=ae gp;replace cV:=(oW.mem _ this).2 cV;replace gp:=oW.keep gp (λh=>by first|exact iA.eU gp h|exact iA.eu gp q0 h|(have:=(iA.base _ h).1;omega));replace hs:=hs.le oW.le;replace ko:=ko.le oW.le;replace oT:=oT.le oW.le;replace De:=De.le q0 oW.le;replace Ch:=Ch.le oW.le;replace pZ:=pZ.le oW.le;replace hmv:=hmv.le oW.le;replace dB:=dB.step oW (λb h1 h2=>dB.cr iA q0 h1 h2);replace eN:=eN.step oW (λb h1 h2=>eN.cr iA q0 h1 h2);replace hok:=hok.step oW (λb h1 h2=>hok.cr iA q0 h1 h2);replace dR:=dR.step oW (λb h1 h2=>dR.cr iA q0 h1 h2);replace hM:=oW.lt hM;have:=S.size;replace S:=S.cC oW iA (aN _);replace iA:=acy;refine ad ⟨G,G,λh=>absurd G h,aB G G (ad ⟨G,G,λh=>absurd G h,iu (aH (bG G G G k3 (ab G G (ad ?_))))⟩)⟩;refine⟨G,(i+1,aiE),(.cons G a16),?_,?_⟩
              ·refine ⟨by dsimp only;omega,_,hM,S,hs,ko,oT,gp,cV,dB,eN,hok,dR,?_⟩;dsimp only;rw[yR,htd,show(g.getD i ([],[]))=p from by rw[ax,ke];rfl];exact iA
              ·dsimp only;omega
             ·refine cO (T.aQ ?_);have hig:i=g.length:=by omega
              rw[hig]at iA acw;refine ab G G (fW bu G iA G (iX G G G (ad ?_)));refine bM G (λc46=>?_) (λc46=>?_)
              ·refine T.aQ (ab G G ?_);have aiF:∀p∈g,p.1.length<=1000000:=λp hp=>by have:=OI p hp;omega
               have aDS:=λb hb=>iA.base b hb
               refine a8 G G E64 (HW _ iA (Ax hg aiF zq MN (aN _)) k3 k3) (λr47 WE hc=>?_);obtain⟨rfl,s5,Hl,Wp,Iv,TS⟩:=hc;obtain rfl:s5=pk ((ia g (du out)).map (fy g)) key:=HQ hg aiF hEl zq MN Hl Wp;replace dB:=dB.step TS (λb h1 h2=>dB.cr iA q0 h1 h2);replace eN:=eN.step TS (λb h1 h2=>eN.cr iA q0 h1 h2);replace hok:=hok.step TS (λb h1 h2=>hok.cr iA q0 h1 h2);replace dR:=dR.step TS (λb h1 h2=>dR.cr iA q0 h1 h2);replace cV:=(TS.mem _ (ae gp)).2 cV;replace gp:=TS.keep gp (λh=>iA.eu gp q0 h);replace hs:=hs.le TS.le;replace ko:=ko.le TS.le;replace oT:=oT.le TS.le;replace S:=S.cC TS iA (aN _);replace hM:=TS.lt hM
               have TT:(λk=> !(pk ((ia g (du out)).map (fy g)) k).isEmpty) key=true:=by
                have h1:=Hl.length_eq
                cases hx:pk ((ia g (du out)).map (fy g)) key with
                |nil=>rw[hx]at h1;simp at h1;omega
                |cons a b=>simp[hx]
               have asE:(pk ((ia g (du out)).map (fy g)) key).length<=1000000:=by have:=Hl.length_eq;omega
               have TU:=Iv.view (hn:=by decide) k3;obtain⟨p6,Fx⟩:∃M',M'=rm (M6) zJ:=⟨_,rfl⟩;have lrm:Le (M6) WE p6 WE:=by rw[Fx];exact ed _ _ _
               rw[<-Fx]at TU;replace hs:=hs.le lrm;replace ko:=ko.le lrm;replace oT:=oT.le lrm;replace cV:p6 gD:=by rw[Fx];exact⟨cV,Iv.eu gp q0⟩
               have acz:=dB.uY (v:=zJ) (λb hb=>dB.cr Iv q0 hb);rw[<-Fx]at acz;clear dB;have dB:=acz;clear acz;have acA:=eN.uY (v:=zJ) (λb hb=>eN.cr Iv q0 hb);rw[<-Fx]at acA;clear eN;have eN:=acA;clear acA;have acB:=hok.uY (v:=zJ) (λb hb=>hok.cr Iv q0 hb);rw[<-Fx]at acB;clear hok;have hok:=acB;clear acB;have acC:=dR.uY (v:=zJ) (λb hb=>dR.cr Iv q0 hb);rw[<-Fx]at acC;clear dR;have dR:=acC;clear acC;have hM_:=hM.rm zJ;rw[<-Fx]at hM_;clear hM;have hM:=hM_;have S_:=S.freeze (v:=zJ) (λb hb=>(Iv.base b hb).1);rw[<-Fx]at S_;clear S hM_ iA Iv lrm;have S:=S_;clear S_;obtain⟨_,_,asG,_⟩:=jg.1 TU;refine ad ?_;have asH:(((gC (g.map λp=>keysOf p.1)).take qk).filter (λk=> !(pk ((ia g (du out)).map (fy g)) k).isEmpty)).length<=(gC (g.map λp=>keysOf p.1)).length:=eG (fz _ _) ak5;have gpp:=gp;have E6:=dB;have acD:=eN;have Zi:=hs;have asI:=ko;have asJ:=oT;have aiG:=cV;have Fy:=hok;have K4:=dR;have Sp:=S;have hMp:=hM;obtain⟨P4,hP4⟩:∃P4:Value->World->Prop,P4=λv w'=>Own RT.str 9 (o9 v) w' w0.heap.size v ((((gC (g.map λp=>keysOf p.1)).take qk).filter (λk=> !(pk ((ia g (du out)).map (fy g)) k).isEmpty))++[key])/\(∀c,v.ownBlock=some c->WE.heap.size<=c\/wX.ownBlock=some c):=⟨_,rfl⟩
               have h4:∀{v:Value} {w w':World},P4 v w->Step p6 w p6 w' aA->P4 v w':=λ{v w w'} h s=>by rw[hP4]at h ⊢;exact⟨h.1.Yr pC s (λ_ _ h=>h),h.2⟩
               obtain⟨P8,hP8⟩:∃P8:Value->World->Prop,P8=λv w'=>∃g,v= .slice (some ⟨g,0,none⟩) 1 1/\w'.heap[g]? =some (.cells #[zJ] 80 (0,0))/\WE.heap.size<=g:=⟨_,rfl⟩
               have h8:∀{v:Value} {w w':World} {N:aJ},P8 v w->Step p6 w p6 w' N->(∀b,N b->b<WE.heap.size)->P8 v w':=λ{v w w' N} h s hN=>by
                rw[hP8]at h ⊢;obtain⟨g,a1,a2,a3⟩:=h;exact⟨g,a1,s.keep a2 (λh=>by have:=hN g h;omega),a3⟩
               apply T.Ye (M:=p6) [0,1,2,3,4,5,6,7,8,10,9,11,12,13] 10 9 194 (.pointer (some ⟨gD,2,none⟩)) [(4,gy wX)] [cM.eq (.pointer (some ⟨gD,2,none⟩)),cM.eq wX,cM.eq (.string ⟨key.toArray⟩),cM.V (RT.str.sl) [key],(cM.mk' (λv w=>P4 v w) (λh s=>h4 h s)),cM.eq (.pointer (some ⟨gD,3,none⟩)),cM.eq FU,cM.eq zJ,(⟨λv w=>P8 v w,λk=>k<WE.heap.size,λh s hN=>h8 h s hN⟩:cM p6),cM.eq (.pointer (some ⟨gD,2,none⟩))] mixed
               ·simp+decide only[zY,tx,fe,je,gV,gX,fg,dA,gI,lN,cond_true,cond_false,Nat.reduceBEq,Nat.reduceAdd,beq_self_eq_true];rfl
               ·rfl
               ·rfl
               ·rfl
               ·rfl
               ·rfl
               ·rfl
               ·rfl
               ·rfl
               ·rfl
               ·rfl
               ·rfl
               ·exact λρ w h=>BO (size:=1) (o:=0) (o':=2) bT G G qM q0 (h (.tmp 19) _ G) w
               ·intro p hp b hb;simp only[cR,fC,or_false]at hp;subst hp;exact hok.mut_ b hb
               ·exact λp hp=>by
                 simp only[cR,fC,or_false]at hp;subst hp;show(4:Nat)≠9;decide
               ·exact yn.st (by exact⟨λ_ _ _ _=>trivial,⟨λ_ _ _ _=>trivial,⟨λ_ _ _ _=>trivial,⟨λ_ _ _ _=>trivial,⟨λp hp b hb=>(by simp at hp),⟨λ_ _ _ _=>trivial,⟨λ_ _ _ _=>trivial,⟨λ_ _ _ _=>trivial,⟨λp hp b hb=>(by have h1:=b9.1 (kg.1 hp).1;subst h1;exact(Fy.base b hb).2),⟨λ_ _ _ _=>trivial,trivial⟩⟩⟩⟩⟩⟩⟩⟩⟩⟩)
               intro asM asN;have y7:=asN p6;have:=ae gp;replace cV:=(y7.mem _ this).2 cV;replace gp:=y7.aP gp;replace hs:=hs.le y7.le;replace ko:=ko.le y7.le;replace oT:=oT.le y7.le;replace dB:=dB.aE y7;replace eN:=eN.aE y7;replace hok:=hok.aE y7;replace dR:=dR.aE y7;replace hM:=y7.lt hM;have:=S.size;replace S:=S.aw y7;have gpR:=gp;have aiH:=hok;have aDT:=y7.size;refine⟨?_,?_⟩
               ·refine aO ?_ ?_
                ·intro wD E sD;replace sD:Step p6 _ p6 wD (gy wX):=sD;refine bR (o':=2) bT G G qM q0 G G ?_;exact a01
                refine aO ?_ ?_
                ·intro wD E sD;replace sD:Step p6 _ p6 wD aA:=sD;refine aC (aV az G G G (sD.aP gpR) G ?_);exact a01
                refine aO ?_ ?_
                ·intro wD E sD;replace sD:Step p6 _ p6 wD (gy wX):=sD;refine ab G G ?_;exact a01
                refine aO ?_ ?_
                ·intro wD E sD;replace sD:Step p6 _ p6 wD aA:=sD;refine aC ?_;refine dP (A:=RT.str) (hn:=by decide) (M:=p6) az I9 q0 G G (sD.lt hM) (j8.2 ⟨G,AN⟩) (.inr ⟨G,G⟩) (λuS wS hS sS=>?_);exact ad ⟨G,G,_,G,hS,sS⟩
                refine aO ?_ ?_
                ·intro wD E sD;replace sD:Step p6 _ p6 wD aA:=sD;refine aC ?_;intro v3 yE;replace sD:Step p6 asM p6 wD aA:=sD;refine fI (M:=p6) (base:=w0.heap.size) az I9 rfl rfl rfl rfl (aiH.aE sD) (show(RT.str.sl).V p6 wD [key] v3 from yE) bY aj5 aj5 (by have:=sD.size;have:=S.size;omega) (λvA wA hoA sA hFA=>?_);exact ad ⟨G,G,_,G,by show P4 vA wA;rw[hP4];exact⟨hoA.Yq pC,λc hc=>(hFA c hc).elim (λh=> .inl (by have:=sD.size;omega)) .inr⟩,sA.back⟩
                refine aO ?_ ?_
                ·intro wD E sD;replace sD:Step p6 _ p6 wD (gy wX):=sD;refine bR (o':=3) bT G G tU q0 G G ?_;exact a01
                refine aO ?_ ?_
                ·intro wD E sD;replace sD:Step p6 _ p6 wD (gy wX):=sD;refine aC (aV cH G G G (sD.keep gpR (λh=>aiH.eu gpR q0 h)) G ?_);exact a01
                refine aO ?_ ?_
                ·intro wD E sD;replace sD:Step p6 _ p6 wD (gy wX):=sD;refine ab G G ?_;exact a01
                refine aO ?_ ?_
                ·intro wD E sD;replace sD:Step p6 _ p6 wD (gy wX):=sD;refine aC ?_;refine Rg.apT (M:=p6) cH wK rfl rfl (by rw[asG];rfl) (λgS wS zS hS sS=>?_);exact ad ⟨G,G,_,G,by show P8 _ _;rw[hP8];exact⟨gS,G,hS,by have:=sD.size;omega⟩,sS⟩
                refine aO ?_ ?_
                ·intro wD E sD;replace sD:Step p6 _ p6 wD (gy wX):=sD;refine aC (aC (aC ?_));intro v3 yE;intro v4 qm;refine aC (aC (bR (o':=2) bT G G qM q0 G G ?_));exact a01
                exact vV
               ·intro OK acE;replace acE:Step p6 _ p6 OK (gy wX):=acE;refine aC (aC (aC ?_));intro axs asP;intro Iw Fz;refine aC (aC (aC ?_));intro aiI FA;refine aC ?_;replace Fz:P4 Iw OK:=Fz;rw[hP4]at Fz;obtain⟨tf,hb9⟩:=Fz;replace FA:P8 aiI OK:=FA;rw[hP8]at FA;obtain⟨g8,rfl,hg8,zg8⟩:=FA;have sX:Step p6 WE p6 OK (gy wX):=(y7.eL a42 (λb h=>Fy.mut_ b h)).trans acE (λb _ h=>h);obtain⟨Ry,Rz⟩:∃M',M'=ji p6 Iw:=⟨_,rfl⟩;have sY:Step p6 WE Ry OK (gy wX):=by rw[Rz];exact sX.agJ (λc hc=>⟨(tf.base c hc).2,(hb9 c hc).elim .inl (λh=> .inr (Fy.mut_ c h))⟩)
                have aiJ:=K4.step sY (λc hc h=>K4.cr Fy q0 hc h);have acF:=TU.le sY.le
                have hu9:((RT.po.sl).sl).V Ry OK [pk ((ia g (du out)).map (fy g)) key] (.slice (some ⟨g8,0,none⟩) 1 1):=by
                 refine jg.2 ⟨_,1,rfl,aN _,by simp,.inr ⟨g8,0,rfl,λh=>?_,λi x hx=>?_⟩⟩
                 ·rw[Rz]at h;rcases h with h|h
                  ·exact tf.eu hg8 q0 h
                  ·have:=hMp _ h;omega
                 ·cases i with
                  |zero=>
                   simp at hx;subst hx;obtain⟨vs,h1,h2⟩:=acF;obtain⟨a,cap,rfl,h3⟩:=h1;refine ⟨_,⟨a,cap,G,h3⟩,λj u hj=> ?_⟩
                   cases j with
                   |zero=>simp at hj;subst hj;rw[show Value.slice a _ cap=zJ from h2.symm];exact gA hg8 G
                   |succ j=>simp at hj
                  |succ i=>simp at hx
                have aDU:((((gC (g.map λp=>keysOf p.1)).take qk).filter (λk=> !(pk ((ia g (du out)).map (fy g)) k).isEmpty)).map (pk ((ia g (du out)).map (fy g)))).length<=(gC (g.map λp=>keysOf p.1)).length:=by rw[ay];exact eG (fz _ _) ak5
                refine fI (M:=Ry) (base:=w0.heap.size) cH wK rfl rfl rfl rfl aiJ hu9 bY aj5 aj5 (by have:=Sp.size;have:=sY.size;omega) (λv12 w12 V6 CQ abr=>?_);have asQ:=tf.Yr pC CQ (λc hc h=>tf.cr aiJ q0 hc h);have sW:Step p6 WE (ji Ry v12) w12 (λk=>gy wX k\/gy FU k):=(sY.eL (λ_ h=> .inl h) (λb h=>h.elim (Fy.mut_ b) (K4.mut_ b))).trans CQ (λb _ h=> .inr h);obtain⟨V7,Od⟩:∃M',M'=ji Ry v12:=⟨_,rfl⟩;rw[<-Od]at sW V6;have hok:=asQ.Wh pC (M':=V7) (by rw[Od,Rz];exact λb hb=> .inr (.inl hb));have dR:=V6;have cV:=(sW.mem _ (ae gpp)).2 aiG;have gp:=sW.keep gpp (λh=>h.elim (Fy.eu gpp q0) (K4.eu gpp q0));have dB:=E6.step sW (λb h1 h2=>h2.elim (λh=>E6.cr Fy q0 h1 h) (λh=>E6.cr K4 q0 h1 h));have eN:=acD.step sW (λb h1 h2=>h2.elim (λh=>acD.cr Fy q0 h1 h) (λh=>acD.cr K4 q0 h1 h));have hs:=Zi.le sW.le;have ko:=asI.le sW.le;have oT:=asJ.le sW.le;have S:=Sp.cL sW (λk hk=>hk.elim (λh=>(Fy.base k h).1) (λh=>(K4.base k h).1));have hM:=sW.lt hMp;refine ad ⟨G,G,λh=>absurd G h,?_⟩;obtain⟨_,_,WG,_⟩:=hok.isSlice;refine cF (M:=V7) qM rfl rfl gp rfl (by rw[WG];rfl) cV (λw14 g14 lI=>?_);replace g14:w14.heap[gD]? =some (.cells #[vi,vq,Iw,FU] 72 (0,0)):=g14;replace dB:=dB.step lI (λc hc (h:c=gD)=>dB.eu gp q0 (h▸hc));replace eN:=eN.step lI (λc hc (h:c=gD)=>eN.eu gp q0 (h▸hc));replace hok:=hok.step lI (λc hc (h:c=gD)=>hok.eu gp q0 (h▸hc));replace dR:=dR.step lI (λc hc (h:c=gD)=>dR.eu gp q0 (h▸hc));replace cV:=(lI.mem _ (ae gp)).2 cV;replace hs:=hs.le lI.le;replace ko:=ko.le lI.le;replace oT:=oT.le lI.le;replace S:=S.cL lI (λk (hk:k=gD)=>by rw[hk];omega)
                replace hM:=lI.lt hM;clear gp;have gp:=g14;refine ad ⟨G,G,λh=>absurd G h,bR (o':=3) bT G G tU q0 G G (ad ⟨G,G,λh=>absurd G h,?_⟩)⟩;obtain⟨_,_,WH,_⟩:=dR.isSlice;refine cF (M:=V7) tU rfl rfl gp rfl (by rw[WH];rfl) cV (λw16 g16 DV=>?_);replace g16:w16.heap[gD]? =some (.cells #[vi,vq,Iw,v12] 72 (0,0)):=g16;replace dB:=dB.step DV (λc hc (h:c=gD)=>dB.eu gp q0 (h▸hc));replace eN:=eN.step DV (λc hc (h:c=gD)=>eN.eu gp q0 (h▸hc));replace hok:=hok.step DV (λc hc (h:c=gD)=>hok.eu gp q0 (h▸hc));replace dR:=dR.step DV (λc hc (h:c=gD)=>dR.eu gp q0 (h▸hc));replace cV:=(DV.mem _ (ae gp)).2 cV;replace hs:=hs.le DV.le;replace ko:=ko.le DV.le;replace oT:=oT.le DV.le;replace S:=S.cL DV (λk (hk:k=gD)=>by rw[hk];omega);replace hM:=DV.lt hM;clear gp;have gp:=g16;refine ad ⟨G,G,λh=>absurd G h,iu (aH (bG G G G k3 (ab G G (ad ?_))))⟩;refine⟨G,(qk+1,Iw,v12),a10,?_,?_⟩
                ·refine⟨by dsimp only;omega,_,hM,S,hs,ko,oT,gp,cV,dB,eN,?_,?_⟩
                 ·dsimp only;rw[jA Pb,if_pos TT];exact hok
                 ·dsimp only;rw[jA Pb,if_pos TT,cG];exact dR
                ·dsimp only;omega
              ·refine aR (aH (bG G G G k3 (ab G G (ad ?_))));refine⟨G,(qk+1,wX,FU),a10,?_,?_⟩
               ·have qU:pk ((ia g (du out)).map (fy g)) key=[]:=by
                 have h1:=(yS (k:=key) hg (λp hp=>by have:=OI p hp;omega) hEl zq MN).length_eq;exact dL.1 k3
                refine⟨by dsimp only;omega,_,hM,S,hs,ko,oT,gp,cV,dB,eN,?_,?_⟩
                ·dsimp only;rw[jA Pb,if_neg (by rw[qU];simp)];exact hok
                ·dsimp only;rw[jA Pb,if_neg (by rw[qU];simp)];exact dR
               ·dsimp only;omega
           ·refine cO (T.aQ (gJ (vs:=[vi,vq,wX,FU]) bT G E4 G G G gp ?_));have TV:=D5 zq hJu (λx=>(hJm x).trans ⟨fun⟨l,hl,hx⟩=>(ck.1 hl).elim λp hp=>⟨p,hp.1,hp.2▸hx⟩,fun⟨p,hp,hx⟩=>⟨_,ck.2 ⟨p,hp,rfl⟩,hx⟩⟩);rw[aL k3,TV]at hok dR;have hFE:=jQ (zq.ok hg)
            have hkE:(keysOf ((ia g (du out)).map (fy g))).length<=1000000000:=by
             rw[<-TV];exact eG (fz _ _) k3
            have OY:RT.pa.V M _ (fa ((ia g (du out)).map (fy g))) _:=NX (x:=fa ((ia g (du out)).map (fy g))) (dB.close ir S af1) (eN.close ir S af1) (hok.close ir S (by show(keysOf _).length<=_;omega)) (dR.close ir S (by show((keysOf _).map _).length<=_;rw[ay];omega));replace S:=S.back;replace hM:=S.lt ir;refine a8 G G E43 (BN (p:=fa ((ia g (du out)).map (fy g))) _ hM OY (Mf hFE hEl)) (λaDX aDY hc=>?_);obtain⟨asR,Ss,_⟩:=hc;obtain⟨sg,rfl,CP⟩:=Ss (R7 (zq.ok hg) hEl);replace S:=S.aw asR;refine cq G G G (cq G G G (aB G G (Rg.bA G G (aT ?_))));exact fA G G G ⟨S,.inl ⟨_,_,zq,_,G,CP⟩⟩
end Go.K
namespace Go.K
open Go.Proofs
set_option maxRecDepth 10000
theorem acG {P:Program} {L:Sl} {w:World} {fn:Func} {Q:Value->World->Prop} {c t b u:Nat} {y:Value} {vs:List Value} {fs:TypeDesc} {e:TypeId} {fr:Nat×Nat} {zv:Value} {size bytes:Nat} (hr:fn.results= #[.cell c t,.tmp u]) (hc:lk L c=some (.pointer (some ⟨b,0,none⟩))) (hy:lk L u=some y) (hu:P.underlying t=some fs) (hf:fs.isRow=true) (hi:TI P t zv size bytes) (hl:vs.length=size)
  (hb:w.heap[b]? =some (.cells vs.toArray e fr)) (h:Q (.tuple #[.agg vs.toArray,y]) w):yj P fn Q .ret L [] w:=
 ⟨rfl,λa ha=>⟨_,by
  obtain⟨i,zf,_,Al,_⟩:=hi.get;have I8:w.rangeAt b 0 vs:=λj v hj=>gA hb a68
  have:=run_loadVar_mid (P:=P) w b 0 t vs fs I8 hu hf aj7;simp[results,hr,ha _ _ hc,ha _ _ hy,asAddr,this,cA],h⟩⟩
theorem Ix:∀{xs:List Fo} {k:Nat} {p:Fo},xs[k]? =some p->(xs.flatMap Mu)[k*2]? =some (.int .i64 p.1)/\(xs.flatMap Mu)[k*2+1]? =some (.int .i64 p.2)
 |[],k,p,h=>by simp at h
 |q::xs,0,p,h=>by simp at h;subst h;exact⟨G,G⟩
 |q::xs,k+1,p,h=>by
  have h1:=Ix (xs:=xs) (k:=k) (p:=p) a69;rw[oZ];show(Mu q++_)[_]? =_/\(Mu q++_)[_]? =_;rw[show(k+1)*2+1=(k*2+1)+2 from by omega,show(k+1)*2=k*2+2 from by omega];exact h1
theorem Own.TW {e:TypeId} {M:aJ} {w:World} {base g len cap k:Nat} {xs:List Fo} {p:Fo} (h:Own RT.fo e M w base (.slice (some ⟨g,0,none⟩) len cap) xs) (hx:xs[k]? =some p):
  ∃cur,w.heap[g]? =some (.cells cur e (0,0))/\cur[k*2]? =some (.int .i64 p.1)/\cur[k*2+1]? =some (.int .i64 p.2):=by
 obtain⟨⟨C,hr,ha⟩,hm⟩:=h;obtain⟨rfl,hok⟩:=xQ.1 ha;have AN:=(aj.1 hx).1;rcases hr.2 with⟨h1,_⟩|⟨g',zV,cur,h1,h2,h3,h4,h5,h6,h7⟩
 ·cases h1
 ·simp only[gG,eE,mW]at h1;obtain⟨⟨rfl,_⟩,rfl,rfl⟩:=h1;have e2:RT.fo.n=2:=rfl;rw[e2]at h6 h7;obtain⟨f1,f2⟩:=Ix hx;refine⟨cur,h3,?_,?_⟩
  ·rw[<-h7,cY,if_pos k3]at f1;simpa using f1
  ·rw[<-h7,cY,if_pos k3]at f2;simpa using f2
theorem K5 {i:Nat} {tl:List (Fd×Nat)} {k:List UInt8} {q:Po} (h:q∈DM i tl k):q.1=(i:Int):=by
 obtain⟨t,_,_,rfl⟩:=Mp.1 h;rfl
theorem MO {k:List UInt8}:∀{L:List En} {i d:Nat} {e:En},L[d]? =some e->(xE k i L).filter (λq=>decide (q.1=((i+d:Nat):Int)))=DM (i+d) (mU e) k
 |[],i,d,e,h=>by simp at h
 |x::L,i,0,e,h=>by
  simp at h;subst h;rw[xE,jK,List.filter_eq_self.2 (λq hq=>by rw[K5 hq];simp),List.filter_eq_nil_iff.2 (λq hq=>?_),eJ]
  ·rfl
  ·obtain⟨d,e,_,h2⟩:=Fa.1 hq;rw[K5 h2];simp;omega
 |x::L,i,d+1,e,h=>by
  have ih:=MO (k:=k) (L:=L) (i:=i+1) (d:=d) (e:=e) a69;rw[xE,jK,List.filter_eq_nil_iff.2 (λq hq=>by rw[K5 hq];simp;omega),ew,show i+(d+1)=i+1+d from by omega];exact ih
theorem acH {L:List En} {k:List UInt8} {d n:Nat} {e:En} (h:L[d]? =some e):((pk L k).filter (λq=>decide (q.1=(d:Int)))).map (λq=>(((n:Nat):Int),q.2))=DM n (mU e) k:=by
 have h1:=MO (k:=k) (i:=0) h;rw[fh]at h1;unfold pk;rw[h1];unfold DM;rw[p9];rfl
def FB (l:List Po) (d:Nat) (n b:Nat):List Po:=((l.take b).filter (λq=>decide (q.1=(d:Int)))).map (λq=>(((n:Nat):Int),q.2))
theorem OL {l:List Po} {d n b:Nat} {q:Po} (h:l[b]? =some q):FB l d n (b+1)=if q.1=(d:Int)then FB l d n b++[((n:Int),q.2)]else FB l d n b:=by
 unfold FB;rw[jA h];by_cases h1:q.1=(d:Int)
 ·rw[if_pos an9,if_pos h1,cG];rfl
 ·rw[if_neg an9,if_neg h1]
theorem TX (l:List Po) (d n b:Nat):(FB l d n b).length<=l.length:=by
 unfold FB;rw[ay];exact eG (fz _ _) ak5
namespace TKRef11
theorem j6:TI Tryz.prog 124 (.agg #[(.int .i64 0),(.int .i64 0)]) 2 16:=by unfold TI;kernel_rfl
theorem aiK:Enters Tryz.prog 122:=enters Tryz.func122 rfl q0
end TKRef11
open TKRef11
set_option maxRecDepth 10000
def vL (n:Nat) (at_:Nat->Nat):List Int:=(List.range n).map λj=>((at_ j:Nat):Int)
theorem qF (n:Nat) (at_:Nat->Nat):(vL n at_).length=n:=by unfold vL;simp
theorem kf {n:Nat} {at_:Nat->Nat} {j:Nat} (h:j<n):(vL n at_)[j]? =some ((at_ j:Nat):Int):=by unfold vL;rw[bj,Cu h];rfl
theorem TY {n:Nat} {at_:Nat->Nat} {i:Nat} (h:i<n):(vL n at_).set i ((at_ i:Nat)+1:Int)=vL n (Cz at_ i):=by
 refine eS λj=>?_
 rw[dN,qF];by_cases e:i=j
 ·subst e;rw[if_pos rfl,if_pos h,kf h];simp[Cz]
 ·rw[if_neg e];rcases cQ j n with hj|hj
  ·rw[kf hj,kf hj];simp only[Cz,if_neg (Ne.symm e)]
  ·rw[cE (by rw[qF];omega),cE (by rw[qF];omega)]
theorem K6 (n:Nat):vL n (λ_=>0)=List.replicate n 0:=by
 refine eS λj=>?_
 rcases cQ j n with hj|hj
 ·rw[kf hj,uA,if_pos hj];rfl
 ·rw[cE (by rw[qF];omega),cE a03]
def FC (ls:List (List Int)) (at_:Nat->Nat) (i:Nat) (Ci:Int):Prop:=
 (Ci= -1/\∀j,j<i->∀m,¬Tr ls j (at_ j) m)\/∃(b:Nat) (n:Int),Ci=(b:Int)/\b<i/\Tr ls b (at_ b) n/\∀j,j<i->∀m,Tr ls j (at_ j) m->n<=m
theorem FC.skip {ls:List (List Int)} {at_:Nat->Nat} {i:Nat} {Ci:Int} (h:FC ls at_ i Ci) (hn:∀m,¬Tr ls i (at_ i) m):FC ls at_ (i+1) Ci:=by
 rcases h with⟨h1,h2⟩|⟨b,n,h1,h2,h3,h4⟩
 ·exact .inl ⟨h1,λj hj=>by rcases gH (show j<=i by omega)with e|e;(subst e;exact hn);exact h2 j e⟩
 ·exact .inr ⟨b,n,h1,by omega,h3,λj hj m hm=>by rcases gH (show j<=i by omega)with e|e;(subst e;exact absurd hm (hn m));exact h4 j e m hm⟩
theorem FC.stay {ls:List (List Int)} {at_:Nat->Nat} {i b:Nat} {n1 n2:Int} (hb:b<i) (h3:Tr ls b (at_ b) n2) (h4:∀j,j<i->∀m,Tr ls j (at_ j) m->n2<=m) (ht:Tr ls i (at_ i) n1) (hle:n2<=n1):FC ls at_ (i+1) (b:Int):=
 .inr ⟨b,n2,rfl,by omega,h3,λj hj m hm=>by rcases gH (show j<=i by omega)with e|e;(subst e;rw[hm.un ht];exact hle);exact h4 j e m hm⟩
theorem FC.take {ls:List (List Int)} {at_:Nat->Nat} {i:Nat} {Ci n1:Int} (h:FC ls at_ i Ci) (ht:Tr ls i (at_ i) n1) (eK:Ci= -1\/∃(b:Nat) (n2:Int),Ci=(b:Int)/\Tr ls b (at_ b) n2/\n1<n2):FC ls at_ (i+1) (i:Int):=by
 refine .inr ⟨i,n1,G,by omega,ht,λj hj m hm=> ?_⟩;rcases gH (show j<=i by omega)with e|e
 ·subst e;rw[hm.un ht];exact zM _
 ·rcases h with⟨h1,h2⟩|⟨b,n,h1,h2,h3,h4⟩
  ·exact absurd hm (h2 j e m)
  ·rcases eK with h5|⟨b',n2,h5,h6,h7⟩
   ·omega
   ·obtain rfl:b=b':=by omega
    have:=h4 j e m hm;have:=h3.un h6;omega
end Go.K
namespace Go.K
open Go.Proofs
namespace TKRefO11
theorem j6:TI Tryz.prog 124 (.agg #[(.int .i64 0),(.int .i64 0)]) 2 16:=by unfold TI;kernel_rfl
theorem aiK:Enters Tryz.prog 122:=enters Tryz.func122 rfl q0
end TKRefO11
open TKRefO11
set_option maxRecDepth 10000
theorem K7 {M:aJ} {w0:World} {v:Value} {ls:List (List Int)} (hM:Lt M w0) (hv:(((RT.int .i64).sl).sl).V M w0 ls v) (F3:ls.length<=1099511627776) (hl:∀l∈ls,l.length<=1099511627776) (VS:uT ls<=1099511627776):
  Spec Tryz.prog 71 #[v] w0 (λv' w'=>∃M',Lt M' w'∧Step M w0 M' w' aA/\∃vo:Value,∃e:Int,v'= .tuple #[vo,.int .i64 e]/\((¬Up ls/\e=1/\vo= .slice none 0 0)\/(Up ls/\∃r,ta ls r/\((r=none/\e=5/\vo= .slice none 0 0)\/∃out,r=some out/\e=0/\(du out).length<=1099511627776/\Own RT.fo 124 M' w' w0.heap.size vo (du out))))):=by
 have hlen:=dZ hv;refine bF (args:=[_]) (fn:=Tryz.f71) Tryz.func71 G (n:=104) Tryz.ntmps71 (T.aQ (aB G G (Rg.bA G G (aI (T.aQ (Rg.bA G G (aS ?_)))))));refine dg (σ:=Nat) (λs=>[(0,v),(4,.int .i64 s)]) (λs w=>s<=ls.length/\(∀l∈ls.take s,eT (-1) l=true)/\Step M w0 M w aA) (λs=>ls.length-s) 0 a38 ?_ ?_
 ·exact⟨bC _,by simp,bz⟩
 ·rintro i w1 ⟨hi,oc,S⟩;refine aI (T.aQ (ab G G (ab G G (bK cn G hv G (ch G G G (ad ?_))))));refine bM G (λc2=>?_) (λc2=>?_)
  ·obtain⟨li,IP⟩:∃x,ls[i]? =some x:=⟨_,al k3⟩;refine aR (aI (aS (T.aQ (ab G G (ab G G ?_)))));refine bX cn iJ G G G (hv.le S.le) bY a48 (λJo J6 BL k5=>?_);obtain rfl:li=J6:=dw (ar (BL.symm.trans (by rw[an];exact IP)));refine bE (M:=M) ah G G G G G W4 (by repeat (first|exact bH _ _|refine aZ (bI W4) ?_)) (λasS TZ=>?_);replace TZ:(((RT.int .i64).sl)).V M _ li asS:=TZ;refine a8 G G aiK (J5 (S.lt hM) TZ) (λr1 w2 h=>?_);obtain⟨rfl,s1⟩:=h;replace S:=S.aw s1;refine Rg.bA rfl rfl (T.aQ (ab rfl rfl (kU rfl rfl (bc (v':= .bool (decide (eT (-1) li=false))) (congrArg Value.bool (by cases eT (-1) li<;>rfl)) (ad ?_)))));refine bM G (λc5=>?_) (λc5=>?_)
   ·refine T.aQ (aB G G (Rg.bA G G (aT ?_)));exact fA G G G ⟨_,S.lt hM,S,_,1,G,.inl ⟨λh=>by have:=h li (au IP);simp_all,rfl,rfl⟩⟩
   ·refine aR (aH (ab G G (bG G G G k3 (Rg.bA G G ?_))));refine⟨G,i+1,a38,?_,?_⟩
    ·refine⟨by omega,λl hl=>?_,S⟩;obtain⟨h1,h2⟩:=aj.1 IP;rw[eF h1,h2]at hl;rcases cP.1 hl with h|h
     ·exact oc l h
     ·rw[b9]at h;subst h;simpa using c5
    ·show ls.length-(i+1)<ls.length-i;omega
  ·obtain rfl:i=ls.length:=by omega
   have oc:Up ls:=by rw[mB]at oc;exact oc
   refine cO (T.aQ (ab G G (bK cn G hv G ?_)));refine Rg.mk0 (len:=ls.length) M ah I3 G G G G k3 k3 (λg wg zg zg' gg sg=>?_);have Df:Own (RT.int .i64) 3 (ins M g) wg w0.heap.size (.slice (some ⟨g,0,none⟩) ls.length ls.length) (vL ls.length (λ_=>0)):=by rw[K6];exact Own.Yo gg ad1 (.inl rfl) k3
   have Sg:=S.aw sg;clear gg;refine Rg.bA G G (T.aQ (Rg.bA G G (T.aQ (Rg.bA G G (aS ?_)))));refine dg (σ:=(Nat->Nat)×List Hd×Int×Value) (λs=>[(0,v),(6,.slice (some ⟨g,0,none⟩) ls.length ls.length),(7,s.2.2.2),(8,.int .i64 s.2.2.1)]) (λs w=>yP ls s.1 s.2.1 s.2.2.1/\∃M1,Lt M1 w/\Own (RT.int .i64) 3 M1 w w0.heap.size (.slice (some ⟨g,0,none⟩) ls.length ls.length) (vL ls.length s.1)/\Own RT.fo 124 M1 w w0.heap.size s.2.2.2 (du s.2.1)/\Step M w0 M1 w aA) (λs=>rem ls s.1) (λ_=>0,[],-1,_) Y7 ?_ ?_
   ·exact⟨yP.zero ls oc,_,Sg.lt hM,Df,dh _ _ _ _ _,Sg⟩
   ·clear S Df Sg;rintro⟨at_,out,last,vo⟩ w1 ⟨H6,M1,mV,Df,ho,S⟩;dsimp only at H6 Df ho ⊢;refine aS (T.aQ (Rg.bA G G (aI (T.aQ (Rg.bA G G (aS ?_))))));refine dg (σ:=Nat×Int) (λs=>[(0,v),(6,.slice (some ⟨g,0,none⟩) ls.length ls.length),(7,vo),(8,.int .i64 last),(9,.int .i64 s.2),(10,.int .i64 s.1)]) (λs w=>s.1<=ls.length/\FC ls at_ s.1 s.2/\Lt M1 w/\Own (RT.int .i64) 3 M1 w w0.heap.size (.slice (some ⟨g,0,none⟩) ls.length ls.length) (vL ls.length at_)/\Own RT.fo 124 M1 w w0.heap.size vo (du out)/\Step M w0 M1 w aA) (λs=>ls.length-s.1) (0,-1) a10 ?_ ?_
    ·exact⟨bC _,.inl ⟨G,λj hj=>by omega⟩,mV,Df,ho,S⟩
    ·clear mV Df ho S;rintro⟨i,Ci⟩ w2 ⟨hi,VO,mV,Df,ho,S2⟩;dsimp only at hi VO ⊢;refine aI (T.aQ (ab G G (ab G G (bK cn G hv G (ch G G G (ad ?_))))));refine bM G (λVa=>?_) (λVa=>?_)
     ·obtain⟨li,IP⟩:∃x,ls[i]? =some x:=⟨_,al k3⟩;refine aR (aI (aS (aI ?_)));apply jU mixed rfl rfl;intro VK JZ;have j4:=JZ M1;refine ab G G (Rg.bL (ab G G (Rg.bL (jG (size:=1) ah I3 G G G k3 (q:=i) k3 (Rg.bL ?_)))));refine bV aq G G ((Df.aE j4).AZ (kf (show i<ls.length by omega))) bY (λk4=>?_);refine Rg.bL (ab G G (Rg.bL (ab G G (Rg.bL ?_))));refine bX cn iJ G G G ((hv.le S2.le).le j4.le) bY a48 (λaxu aiL acI asT=>?_);obtain rfl:li=aiL:=dw (ar (acI.symm.trans (by rw[an];exact IP)));refine Rg.bL ?_;refine bE (M:=M1) ah G G G G G W4 (by repeat (first|exact bH _ _|refine aZ (bI W4) ?_)) (λaiM T0=>?_);replace T0:(((RT.int .i64).sl)).V M1 _ li aiM:=T0;refine Rg.bL ?_
      first|refine bK ah rfl W4 rfl ?_|refine fW ah rfl W4 rfl ?_
      refine Rg.bL (ch G G G (Rg.bL (ab G G (Rg.bL ?_))));refine aW (g:=44) G (λE0=>?_) (λE0=>?_)
      ·obtain⟨n1,hn1⟩:∃x,li[at_ i]? =some x:=⟨_,al k3⟩;have LU:Tr ls i (at_ i) n1:=⟨li,IP,hn1⟩;refine ak G G (ab G G (Rg.bL (ak G G (ch G G G (Rg.bL (ak G G (ab G G (Rg.bL ?_))))))));refine aW (g:=47) G (λacJ=>?_) (λacJ=>?_)
       ·refine ao G G G G (Rg.bL (ao G G G G (Rg.bL (ao G G G G (Rg.bL (ao G G G G (Rg.bL (ao G G G G (Rg.bL (ao G G G G (Rg.bL ?_)))))))))));refine ao G G G G (Rg.bL (ao G G G G (Rg.bL (ao G G G G (Rg.bL (ao G G G G (Rg.bL (ao G G G G (Rg.bL (ao G G G G (Rg.bL ?_)))))))))));refine ao G G G G (Rg.bL (ao G G G G (Rg.bL (ao G G G G (Rg.bL (ao G G G G (Rg.bL (ao G G G G (Rg.bL (ao G G G G (Rg.bL ?_)))))))))));refine ao G G G G (Rg.bL (ao G G G G (Rg.bL (ao G G G G (Rg.bL (ak G G (bm G G G (Rg.bL (bm G G G (Rg.bL (dD ?_)))))))))));refine kT G (aH (ab G G (Rg.bA G G (aH (ab G G (bG G G G k3 (Rg.bA G G ?_)))))));refine⟨G,(i+1,(i:Int)),a10,?_,?_⟩
        ·exact⟨by simp only;omega,VO.take LU (.inl (VO.elim (λh=>h.1) (fun⟨b,_,h,_⟩=>by omega))),j4.lt mV,Df.aE j4,ho.aE j4,S2.aw j4⟩
        ·show ls.length-(i+1)<ls.length-i;omega
       ·obtain⟨b,n2,rfl,hb,Bj,C6⟩:=VO.resolve_left (λh=>by omega);obtain⟨lb,OZ,hn2⟩:=Bj;have asU:=(aj.1 hn2).1;refine ak G G (ab G G (Rg.bL (ak G G (ab G G (Rg.bL (ak G G ?_))))));refine bX cn iJ G G G ((hv.le S2.le).le j4.le) bY a48 (λasV acK WI akL=>?_);obtain rfl:li=acK:=dw (ar (WI.symm.trans (by rw[an];exact IP)));refine Rg.bL (ak G G ?_);refine bE (M:=M1) ah G G G G G W4 (by repeat (first|exact bH _ _|refine aZ (bI W4) ?_)) (λacL FD=>?_);replace FD:(((RT.int .i64).sl)).V M1 _ li acL:=FD;refine Rg.bL (ak G G (ab G G (Rg.bL (ak G G (ab G G (Rg.bL (ak G G (jG (size:=1) ah I3 G G G k3 (q:=i) k3 (Rg.bL (ak G G ?_))))))))));refine bV aq G G ((Df.aE j4).AZ (kf (show i<ls.length by omega))) bY (λk4=>?_);refine Rg.bL (ak G G ?_);refine bX ah I3 G G G (FD) bY a48 (λasW acM WK akM=>?_);obtain rfl:n1=acM:=dw (ar (WK.symm.trans (by rw[an];exact hn1)));refine Rg.bL (ak G G ?_);refine bV (M:=M1) aq G G W4 (by repeat (first|exact bH _ _|refine aZ (bI W4) ?_)) (λMR=>?_);refine bc (v':= .int .i64 (n1)) G ?_;replace MR: -9223372036854775808<=(n1:Int)/\n1<=9223372036854775807:=MR;refine Rg.bL (ak G G (ab G G (Rg.bL (ak G G (ab G G (Rg.bL (ak G G ?_)))))));refine bX cn iJ G G G ((hv.le S2.le).le j4.le) bY a48 (λasX acN WL akN=>?_)
        obtain rfl:lb=acN:=dw (ar (WL.symm.trans (by rw[an];exact OZ)));refine Rg.bL (ak G G ?_);refine bE (M:=M1) ah G G G G G W4 (by repeat (first|exact bH _ _|refine aZ (bI W4) ?_)) (λacO FE=>?_);replace FE:(((RT.int .i64).sl)).V M1 _ lb acO:=FE;refine Rg.bL (ak G G (ab G G (Rg.bL (ak G G (ab G G (Rg.bL (ak G G (jG (size:=1) ah I3 G G G k3 (q:=b) k3 (Rg.bL (ak G G ?_))))))))));refine bV aq G G ((Df.aE j4).AZ (kf (show b<ls.length by omega))) bY (λk4=>?_);refine Rg.bL (ak G G ?_);refine bX ah I3 G G G (FE) bY a48 (λasY acP WM akO=>?_);obtain rfl:n2=acP:=dw (ar (WM.symm.trans (by rw[an];exact hn2)));refine Rg.bL (ak G G ?_);refine bV (M:=M1) aq G G W4 (by repeat (first|exact bH _ _|refine aZ (bI W4) ?_)) (λMS=>?_);refine bc (v':= .int .i64 (n2)) G ?_;replace MS: -9223372036854775808<=(n2:Int)/\n2<=9223372036854775807:=MS;refine Rg.bL (ak G G (ch G G G (Rg.bL (ak G G (aM G G G (Rg.bL (bm G G G (Rg.bL (dD ?_)))))))));refine bM G (λJD=>?_) (λJD=>?_)
        ·refine aH (ab G G (Rg.bA G G (aH (ab G G (bG G G G k3 (Rg.bA G G ?_))))));refine⟨G,(i+1,(i:Int)),a10,?_,?_⟩
         ·exact⟨by simp only;omega,VO.take LU (.inr ⟨b,n2,rfl,⟨lb,OZ,hn2⟩,JD⟩),j4.lt mV,Df.aE j4,ho.aE j4,S2.aw j4⟩
         ·show ls.length-(i+1)<ls.length-i;omega
        ·refine aR (aH (ab G G (bG G G G k3 (Rg.bA G G ?_))));refine⟨G,(i+1,(b:Int)),a10,?_,?_⟩
         ·exact⟨by simp only;omega,.stay hb ⟨lb,OZ,hn2⟩ C6 LU k3,j4.lt mV,Df.aE j4,ho.aE j4,S2.aw j4⟩
         ·show ls.length-(i+1)<ls.length-i;omega
      ·refine ao G G G G (Rg.bL (ao G G G G (Rg.bL (ao G G G G (Rg.bL (cj G G G (Rg.bL (cj G G G (Rg.bL (cj G G G (Rg.bL ?_)))))))))));refine cj G G G (Rg.bL (cj G G G (Rg.bL (cj G G G (Rg.bL (cj G G G (Rg.bL (cj G G G (Rg.bL (cj G G G (Rg.bL ?_)))))))))));refine cj G G G (Rg.bL (cj G G G (Rg.bL (cj G G G (Rg.bL (cj G G G (Rg.bL (cj G G G (Rg.bL (cj G G G (Rg.bL ?_)))))))))));refine cj G G G (Rg.bL (cj G G G (Rg.bL (cj G G G (Rg.bL (cj G G G (Rg.bL (cj G G G (Rg.bL (cj G G G (Rg.bL ?_)))))))))));refine ao G G G G (Rg.bL (aM G G G (Rg.bL (dD (jD G (aR (aH (ab G G (bG G G G k3 (Rg.bA G G ?_))))))))));refine⟨G,(i+1,Ci),a10,?_,?_⟩
       ·exact⟨by simp only;omega,VO.skip (λm ⟨l,h1,h2⟩=>by rw[IP]at h1;cases h1;have:=(aj.1 h2).1;omega),j4.lt mV,Df.aE j4,ho.aE j4,S2.aw j4⟩
       ·show ls.length-(i+1)<ls.length-i;omega
     ·obtain rfl:i=ls.length:=by omega
      refine cO (aI (T.aQ (ab G G (ch G G G (ad ?_)))));refine bM G (λXB=>?_) (λXB=>?_)
      ·refine T.aQ (ab G G (aB G G (Rg.bA G G (aT ?_))));exact fA G G G ⟨_,mV,S2,_,0,G,.inr ⟨oc,some out,H6.fin (λi n ht=>(VO.elim (λh=>h.2) (fun⟨b,_,h,_⟩=>by omega)) i ht.lt.1 n ht),.inr ⟨out,G,G,(by have:=H6.f;unfold du;rw[ay];omega),ho⟩⟩⟩
      ·obtain⟨b,n2,rfl,hb,Bj,C6⟩:=VO.resolve_left (λh=>by omega);obtain⟨lb,OZ,hn2⟩:=Bj;have asU:=(aj.1 hn2).1;have aDZ:=hl lb (au OZ);have Bj:Tr ls b (at_ b) n2:=⟨lb,OZ,hn2⟩;refine aR (aI ?_);apply jU mixed rfl rfl;intro aD0 asZ;have Dg:=asZ M1;refine ab G G (Rg.bL (ab G G (Rg.bL ?_)));refine bX cn iJ G G G ((hv.le S2.le).le Dg.le) bY a48 (λaxv aiN acQ as0=>?_);obtain rfl:lb=aiN:=dw (ar (acQ.symm.trans (by rw[an];exact OZ)));refine Rg.bL ?_;refine bE (M:=M1) ah G G G G G W4 (by repeat (first|exact bH _ _|refine aZ (bI W4) ?_)) (λaiO K8=>?_);replace K8:(((RT.int .i64).sl)).V M1 _ lb aiO:=K8;refine Rg.bL (ab G G (Rg.bL (ab G G (Rg.bL (jG (size:=1) ah I3 G G G k3 (q:=b) k3 (Rg.bL ?_))))));refine bV aq G G ((Df.aE Dg).AZ (kf (show b<ls.length by omega))) bY (λk4=>?_);refine Rg.bL ?_;refine bX ah I3 G G G (K8) bY a48 (λaxw aiP acR as1=>?_);obtain rfl:n2=aiP:=dw (ar (acR.symm.trans (by rw[an];exact hn2)));refine Rg.bL ?_;refine bV (M:=M1) aq G G W4 (by repeat (first|exact bH _ _|refine aZ (bI W4) ?_)) (λT1=>?_);refine bc (v':= .int .i64 (n2)) G ?_;replace T1: -9223372036854775808<=(n2:Int)/\n2<=9223372036854775807:=T1;refine Rg.bL (aB G G (Rg.bL (dD (aI (T.aQ (ab G G (ab G G (sJ G G G (ad ?_)))))))));refine bM G (λXs=>?_) (λXs=>?_)
       ·refine T.aQ (aB G G (Rg.bA G G (aT ?_)));exact fA G G G ⟨_,Dg.lt mV,S2.aw Dg,_,5,G,.inr ⟨oc,none,H6.Yk oc Bj Xs,.inl ⟨G,G,G⟩⟩⟩
       ·refine aR (T.aQ (ab G G (Rg.bA G G (T.aQ (ab G G (ab G G (ab G G (ab G G ?_))))))));refine jG (size:=1) ah I3 G G G k3 (q:=b) k3 ?_;refine bV aq G G ((Df.aE Dg).AZ (kf (show b<ls.length by omega))) bY (λk4=>?_);refine Rg.PR cB j6 I3 G G G ?_;have rb:nj (b:Int):=⟨by omega,by omega⟩;have rc:nj ((at_ b:Nat):Int):=k4;refine dP (A:=RT.fo) (hn:=by decide) (M:=M1) dz j6 q0 G G (Dg.lt mV) (aew rb rc) (.inl G) (λu6 w6 GA s6=>?_);have hal:=H6.f;have Mi:(du out).length=out.length:=by unfold du;simp
        have th:=(ho.aE Dg).aE s6;have aiQ:=(Df.aE Dg).aE s6;have S6:=(S2.aw Dg).aw s6;have hz6:=S6.size;refine cN (M:=M1) (base:=w0.heap.size) dz j6 rfl rfl rfl rfl (th) GA bY (by rw[Mi];simp;omega) (by rw[Mi];simp;omega) k3 (λvo7 M7 w7 oK s7=>?_);have qt:∀k,vo.ownBlock=some k->k≠g:=λk hk e=>BT.ne (th.bt k hk) (aiQ.bt g rfl) q0 e
        have WN:=aiQ.step s7 (λk hk CK=>qt k CK (ar hk).symm);have S7:=S6.cL s7 (λb hb=>(th.base b hb).1);have hM7:=s7.lt (s6.lt (Dg.lt mV));have hgv:∀k,vo7.ownBlock=some k->k≠g:=λk hk e=>BT.ne (oK.bt k hk) (WN.bt g rfl) q0 e
        refine Rg.bA G G (aH (ab G G (ab G G (jG (size:=1) ah I3 G G G k3 (q:=b) k3 ?_))));refine bV aq G G (WN.AZ (kf (show b<ls.length by omega))) bY (λaD2=>?_);refine bG G G G k3 (jG (size:=1) ah I3 G G G k3 (q:=b) k3 ?_);refine Rg.Je (M:=M7) I3 rfl rfl WN (by rw[qF];omega) ⟨by show(-9223372036854775808:Int)<=_;omega,by show _<=(9223372036854775807:Int);omega⟩ (λw8 aiR s8=>?_);rw[TY k3]at aiR;have ho8:=oK.step s8 (λk hk e=>hgv k hk e);refine ad ?_;refine⟨G,(Cz at_ b,out++[(n2,(b:Int),((at_ b:Nat):Int))],n2,vo7),Y7,?_,?_⟩
        ·refine⟨H6.step oc Bj (λj m hj=>C6 j hj.lt.1 m hj) Xs,M7,s8.lt hM7,aiR,?_,S7.cL s8 (λb hb=>by have hb:b=g:=hb;have:=(WN.base g rfl).1;omega)⟩;unfold du at ho8 ⊢;rw[cG];exact ho8
        ·show rem ls (Cz at_ b)<rem ls at_;have h1:=(H6.step oc Bj (λj m hj=>C6 j hj.lt.1 m hj) Xs).f;have h2:=H6.f;rw[aY,cb]at h1;omega
end Go.K
namespace Go.K
open Go.Proofs
namespace TKRJoin
theorem abU:Enters Tryz.prog 119:=enters Tryz.func119 rfl q0
end TKRJoin
open TKRJoin
set_option maxRecDepth 10000
theorem K9 {M:aJ} {ks:List (List (List UInt8))} {v0:Value} (w0:World) (hM:Lt M w0) (hv:(RT.str.sl.sl).V M w0 ks v0) (hn:ks.flatten.length<=1000000000):
  Spec Tryz.prog 72 #[v0] w0 (λv w=>(RT.str.sl).V M w (gC ks) v/\Step M w0 M w aA):=by
 have ir:=hM;have AN:=dZ hv
 have k4:∀(i:Nat) (l:List (List UInt8)),ks[i]? =some l->∀k,((ks.take i).flatten++l.take k).length<=ks.flatten.length:=λi l h k=>by
  have h1:ks=ks.take i++l::ks.drop (i+1):=by
   have h2:=(aj.1 h).1;rw[<-(aj.1 h).2,List.getElem_cons_drop,lj]
  have h3:ks.flatten.length=((ks.take i).flatten++(l++(ks.drop (i+1)).flatten)).length:=by rw[<-List.flatten_cons,<-List.flatten_append,<-h1]
  rw[h3,aY,aY,aY,aU];omega
 refine bF (args:=[_]) (fn:=Tryz.f72) Tryz.func72 G (n:=31) Tryz.ntmps72 ?_;have S:Step M w0 M w0 aA:=bz;refine T.aQ (Rg.bA G G (T.aQ (Rg.bA G G (aI (T.aQ (aB G G ?_))))));refine ad (aS ?_);refine dg (σ:=Nat×Value) (λq=>[(0,v0),(3,q.2),(4,.int .i64 (q.1:Int))]) (λq w=>Step M w0 M w aA/\(RT.str.sl.sl).V M w ks v0/\(RT.str.sl).V M w (allBy id (ks.take q.1).flatten) q.2/\q.1<=ks.length) (λq=>ks.length-q.1) (0,.slice none 0 0) a06 ?_ ?_
 ·exact⟨S,hv,mX,bC _⟩
 ·clear S hv hM;rintro⟨i,u⟩ w ⟨S,hv,hu,hi⟩;dsimp only at hu hi ⊢;have hM:=S.lt ir;refine aI (T.aQ (ab G G (ab G G (bK iM G hv G (ch G G G (ad ?_))))));refine bM G (λc3=>?_) (λc3=>?_)
  ·refine aR (aI (aS (T.aQ (Rg.bA G G (aS ?_)))));refine dg (σ:=Nat×Value) (λq=>[(0,v0),(3,q.2),(4,.int .i64 (i:Int)),(5,.int .i64 (q.1:Int))]) (λq w=>Step M w0 M w aA/\(RT.str.sl.sl).V M w ks v0/\(RT.str.sl).V M w (allBy id ((ks.take i).flatten++(ks[i]?.getD []).take q.1)) q.2/\q.1<=(ks[i]?.getD []).length) (λq=>(ks[i]?.getD []).length-q.1) (0,u) Y7 ?_ ?_
   ·exact⟨S,hv,by rw[vQ,eJ];exact hu,bC _⟩
   ·clear S hv hM hu;rintro⟨k,u2⟩ w ⟨S,hv,hu,hk⟩;dsimp only at hu hk ⊢;have hM:=S.lt ir;refine aI (T.aQ (ab G G (ab G G (ab G G ?_))));obtain⟨l,hki⟩:∃x,ks[i]? =some x:=⟨_,al k3⟩;have px:ks[i]?.getD []=l:=by rw[hki];rfl
    rw[px]at hu hk;refine bX iM qM G G G hv bY k3 (λu63 y' eo as2=>?_);rw[an]at eo;obtain rfl:=ar (hki.symm.trans eo);refine bE az G G G G G as2 bY (λv64 abG=>?_);refine bK az G abG G (ch G G G (ad ?_));refine bM G (λc6=>?_) (λc6=>?_)
    ·refine aR (aI (aS (aH (ab G G (ab G G (ab G G ?_))))));refine bX iM qM G G G hv bY k3 (λu83 y' eo as3=>?_);rw[an]at eo;obtain rfl:=ar (hki.symm.trans eo);refine bE az G G G G G as3 bY (λv84 as4=>?_);refine ab G G ?_;obtain⟨x,hlk⟩:∃x,l[k]? =some x:=⟨_,al k3⟩;have as5:=k4 i l hki l.length;rw[aY,aU]at as5;refine bX az I9 G G G as4 bY k3 (λu86 y' eo as6=>?_);rw[an]at eo;obtain rfl:=ar (hlk.symm.trans eo);refine bE aG G G G G G as6 bY (λv87 as7=>?_);obtain⟨rfl,qb⟩:=j8.1 as7;obtain⟨oc,uQ,_⟩:=xU ((ks.take i).flatten++l.take k);have Oc:=k4 i l hki k;refine a8 G G abU (Ec (k:=x) _ hM hu oc qb k3) (λr8 w8 hc=>?_);obtain⟨hr8,s8⟩:=hc;rw[<-wI,eR,show l.take k++[x]=l.take (k+1)from by rw[bB,hlk];rfl]at hr8;replace hv:=hv.le s8.le;replace hu:=hu.le s8.le;replace hM:=s8.lt hM;have:=S.size;replace S:=S.aw s8;refine Rg.bA G G (aH (ab G G (bG G G G k3 (Rg.bA G G ?_))));refine⟨G,(k+1,r8),Y7,?_,?_⟩
     ·exact⟨S,hv,by rw[px];exact hr8,by rw[px];dsimp only;omega⟩
     ·rw[px];dsimp only;omega
    ·refine cO (aH (ab G G (bG G G G k3 (Rg.bA G G ?_))));have F3:l.take k=l:=aL k3;rw[F3]at hu;refine⟨G,(i+1,u2),a06,?_,?_⟩
     ·exact⟨S,hv,by dsimp only;rw[bB,hki,bU,List.flatten_append,List.flatten_cons,List.flatten_nil,eJ];exact hu,by dsimp only;omega⟩
     ·dsimp only;omega
  ·refine cO (T.aQ (ab G G (Rg.bA G G (aT ?_))));rw[aL k3]at hu;have e:allBy id ks.flatten=gC ks:=Q6 (xU _).1 (qz ks).1 (λx=>by rw[(xU _).2.2,(qz ks).2,List.mem_flatten]);rw[e]at hu;exact aX G G ⟨hu,S⟩
end Go.K
namespace Go.K
open Go.Proofs
set_option maxRecDepth 10000
def nA (l:List Bool):Array Value:=(l.map Value.bool).toArray
theorem Cj {l:List Bool} {i:Nat} (h:i<l.length):∃b,(nA l)[i]? =some (.bool b):=by
 unfold nA;exact⟨l[i],by rw[ec,bj,al h];rfl⟩
theorem Ck (l:List Bool) (i:Nat) (b:Bool):(nA l).setIfInBounds i (.bool b)=nA (l.set i b):=by
 unfold nA;simp[List.map_set]
theorem WO {M:aJ} {w:World} {b:Nat} {e:TypeId} {l:List Bool} (h:w.heap[b]? =some (.cells (nA l) e (0,0))) (hb: ¬M b) (hl:l.length<=140737488355328):(RT.bool.sl).V M w l (.slice (some ⟨b,0,none⟩) l.length l.length):=
 jg.2 ⟨_,_,rfl,aN _,hl,.inr ⟨b,0,rfl,hb,λi x hx=>⟨[.bool x],rfl,λj v hj=>by
  cases j with
  |zero=>
   simp at hj;subst hj;refine gA h ?_;show(nA l)[0+i*1+0]? =_;unfold nA;rw[ec,bj,show 0+i*1+0=i by omega,hx];rfl
  |succ j=>simp at hj⟩⟩⟩
end Go.K

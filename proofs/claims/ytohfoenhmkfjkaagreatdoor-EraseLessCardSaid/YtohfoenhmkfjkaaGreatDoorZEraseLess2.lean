/- What the law 'EraseLess' needs of walks and plain Lean, part 2: nothing is assumed beyond the texts that it imports. -/
import Derived.ChangeKeysEq
import Derived.Ground.Names2Prog
import Derived.KernelRfl
import Derived.Laws.IdiomCopy
import Derived.Laws.MakeOwn
import Derived.Laws.StructEq
import Derived.Lib.RuneBytes
import Derived.Lib.SliceRun
import Derived.Maps.OwnSet
import Derived.Shelf.SlGeneric
import Derived.Shelf.Slices.SearchI
import Derived.Shelf.Small.Strs
import Derived.Shelf.Small.Utf8
import Derived.Shelf.Strings.Builder1
import Derived.Shelf.Strings.BuilderRune
import Derived.Shelf.Strings.SlTrimAscii
import Derived.Test.YtohfoenhmkfjkaaGreatDoorProg
import Derived.Test.YtohfoenhmkfjkaaGreatDoorZEraseLess1
set_option linter.unusedVariables false
set_option linter.unusedSimpArgs false
theorem ad:type_of% @Go.K.Rg.nil:=@Go.K.Rg.nil
theorem ae:type_of% @Go.K.Rg.move:=@Go.K.Rg.move
theorem ah:type_of% @Go.K.T.region:=@Go.K.T.region
theorem ai:type_of% @Go.K.Rg.assign:=@Go.K.Rg.assign
theorem aj:type_of% @Go.K.T.seq:=@Go.K.T.seq
theorem al:type_of% @Go.K.Rg.aB:=@Go.K.Rg.aB
theorem an:type_of% @Go.K.Step.refl:=@Go.K.Step.refl
theorem ao:type_of% @Go.K.Rg.br:=@Go.K.Rg.br
theorem aq:type_of% @Go.K.Le.refl:=@Go.K.Le.refl
theorem ar:type_of% @Go.Proofs.Tryz.underlying3:=@Go.Proofs.Tryz.underlying3
theorem au:type_of% @Go.Proofs.Tryz.underlying32:=@Go.Proofs.Tryz.underlying32
theorem av:type_of% @List.getElem?_eq_some_iff:=@List.getElem?_eq_some_iff
theorem ax:type_of% @Go.K.Rg.a7:=@Go.K.Rg.a7
theorem az:type_of% @Int.toNat_natCast:=@Int.toNat_natCast
theorem aD:type_of% @Go.Proofs.Tryz.underlying9:=@Go.Proofs.Tryz.underlying9
theorem aE:type_of% @Go.K.Rg.bz:=@Go.K.Rg.bz
theorem aF:type_of% @Go.K.bD.cons:=@Go.K.bD.cons
theorem aG:type_of% @Go.K.Rg.aZ:=@Go.K.Rg.aZ
theorem aH:type_of% @Go.K.Rg.fieldAddr:=@Go.K.Rg.fieldAddr
theorem aJ:type_of% @Go.K.T.ret:=@Go.K.T.ret
theorem aK:type_of% @Go.K.bX.cons:=@Go.K.bX.cons
theorem aL:type_of% @List.getElem?_eq_getElem:=@List.getElem?_eq_getElem
theorem aM:type_of% @List.mem_of_getElem?:=@List.mem_of_getElem?
theorem aN:type_of% @Go.Proofs.Tryz.underlying41:=@Go.Proofs.Tryz.underlying41
theorem aP:type_of% @Go.K.Rg.call:=@Go.K.Rg.call
theorem aQ:type_of% @Go.K.Rg.bK:=@Go.K.Rg.bK
theorem aR:type_of% @Go.K.Rg.nilCheck:=@Go.K.Rg.nilCheck
theorem aS:type_of% @Go.K.Rg.bE:=@Go.K.Rg.bE
theorem aT:type_of% @Go.K.Le.trans:=@Go.K.Le.trans
theorem aU:type_of% @Go.K.T.skip:=@Go.K.T.skip
theorem aV:type_of% @Go.Proofs.Tryz.underlying39:=@Go.Proofs.Tryz.underlying39
theorem aW:type_of% @Go.Proofs.Tryz.underlying107:=@Go.Proofs.Tryz.underlying107
theorem aY:type_of% @Go.K.Step.le:=@Go.K.Step.le
theorem a8:type_of% @Go.K.T.block:=@Go.K.T.block
theorem bg:type_of% @Go.Proofs.Tryz.underlying55:=@Go.Proofs.Tryz.underlying55
theorem bj:type_of% @Nat.le_refl:=@Nat.le_refl
theorem bm:type_of% @Go.Proofs.Tryz.underlying147:=@Go.Proofs.Tryz.underlying147
theorem bp:type_of% @List.take_of_length_le:=@List.take_of_length_le
theorem bu:type_of% @Go.K.Rg.eqv:=@Go.K.Rg.eqv
theorem bA:type_of% @Go.K.Rg.cP:=@Go.K.Rg.cP
theorem bB:type_of% @Go.Proofs.Tryz.underlying216:=@Go.Proofs.Tryz.underlying216
theorem bC:type_of% @Bool.and_eq_true:=@Bool.and_eq_true
theorem bG:type_of% @Nat.zero_le:=@Nat.zero_le
theorem bH:type_of% @List.getD_eq_getElem?_getD:=@List.getD_eq_getElem?_getD
theorem bI:type_of% @Go.K.T.dG:=@Go.K.T.dG
theorem bJ:type_of% @Go.Proofs.Tryz.underlying153:=@Go.Proofs.Tryz.underlying153
theorem bL:type_of% @List.length_append:=@List.length_append
theorem bM:type_of% @Option.some.inj:=@Option.some.inj
theorem bN:type_of% @Go.Proofs.Tryz.underlying159:=@Go.Proofs.Tryz.underlying159
theorem bO:type_of% @List.mem_iff_getElem?:=@List.mem_iff_getElem?
theorem bP:type_of% @Go.K.Rg.extract:=@Go.K.Rg.extract
theorem bQ:type_of% @Go.K.Rg.cB:=@Go.K.Rg.cB
theorem bS:type_of% @List.length_take:=@List.length_take
theorem bT:type_of% @Go.Proofs.Tryz.underlying127:=@Go.Proofs.Tryz.underlying127
theorem bU:type_of% @Go.K.Rg.cV:=@Go.K.Rg.cV
theorem bV:type_of% @Go.K.Step.aI:=@Go.K.Step.aI
theorem bY:type_of% @List.mem_cons_self:=@List.mem_cons_self
theorem b4:type_of% @Go.Proofs.Tryz.underlying5:=@Go.Proofs.Tryz.underlying5
theorem b9:type_of% @Go.Proofs.Tryz.underlying47:=@Go.Proofs.Tryz.underlying47
theorem ca:type_of% @Go.K.Rg.dL:=@Go.K.Rg.dL
theorem cb:type_of% @Go.K.Rg.cG:=@Go.K.Rg.cG
theorem cd:type_of% @List.take_add_one:=@List.take_add_one
theorem cf:type_of% @Go.K.Rg.fR:=@Go.K.Rg.fR
theorem cg:type_of% @Go.K.Rg.load:=@Go.K.Rg.load
theorem cp:type_of% @List.mem_cons_of_mem:=@List.mem_cons_of_mem
theorem cr:type_of% @List.length_cons:=@List.length_cons
theorem cx:type_of% @Go.K.Rg.dd:=@Go.K.Rg.dd
theorem cy:type_of% @Go.Proofs.Tryz.underlying161:=@Go.Proofs.Tryz.underlying161
theorem cz:type_of% @Go.Proofs.Tryz.underlying58:=@Go.Proofs.Tryz.underlying58
theorem cE:type_of% @List.mem_singleton:=@List.mem_singleton
theorem cF:type_of% @List.mem_map:=@List.mem_map
theorem cH:type_of% @Go.Proofs.Tryz.underlying129:=@Go.Proofs.Tryz.underlying129
theorem cJ:type_of% @Array.getElem?_setIfInBounds:=@Array.getElem?_setIfInBounds
theorem cK:type_of% @Nat.lt_or_ge:=@Nat.lt_or_ge
theorem cM:type_of% @Go.K.T.exit:=@Go.K.T.exit
theorem cN:type_of% @List.length_drop:=@List.length_drop
theorem cO:type_of% @Go.Proofs.Tryz.underlying43:=@Go.Proofs.Tryz.underlying43
theorem cQ:type_of% @Go.Sem.run_bind:=@Go.Sem.run_bind
theorem cR:type_of% @Go.K.Rg.append:=@Go.K.Rg.append
theorem cZ:type_of% @Option.toList_some:=@Option.toList_some
theorem db:type_of% @List.length_map:=@List.length_map
theorem dg:type_of% @Go.Proofs.Tryz.underlying169:=@Go.Proofs.Tryz.underlying169
theorem dm:type_of% @List.mem_append:=@List.mem_append
theorem dp:type_of% @List.pairwise_map:=@List.pairwise_map
theorem dq:type_of% @Go.K.Rg.idx:=@Go.K.Rg.idx
theorem dr:type_of% @Go.K.Rg.jf:=@Go.K.Rg.jf
theorem du:type_of% @Go.Result.andThen_ok:=@Go.Result.andThen_ok
theorem dv:type_of% @Go.Proofs.Tryz.underlying193:=@Go.Proofs.Tryz.underlying193
theorem dw:type_of% @Bool.true_and:=@Bool.true_and
theorem dx:type_of% @List.mem_cons:=@List.mem_cons
theorem dA:type_of% @List.drop_eq_getElem_cons:=@List.drop_eq_getElem_cons
theorem dC:type_of% @Go.K.T.loop:=@Go.K.T.loop
theorem dF:type_of% @List.getElem?_take:=@List.getElem?_take
theorem dI:type_of% @List.getElem?_eq_none:=@List.getElem?_eq_none
theorem dK:type_of% @List.getElem?_set:=@List.getElem?_set
theorem dN:type_of% @Go.Proofs.Tryz.underlying188:=@Go.Proofs.Tryz.underlying188
theorem dO:type_of% @Go.Proofs.Tryz.underlying191:=@Go.Proofs.Tryz.underlying191
theorem dU:type_of% @Decidable.not_not:=@Decidable.not_not
theorem dZ:type_of% @Go.K.Rg.build:=@Go.K.Rg.build
theorem ec:type_of% @Go.K.Own.nil:=@Go.K.Own.nil
theorem eh:type_of% @List.all_eq_true:=@List.all_eq_true
theorem ei:type_of% @List.drop_eq_nil_of_le:=@List.drop_eq_nil_of_le
theorem ew:type_of% @List.getElem?_map:=@List.getElem?_map
theorem ey:type_of% @Bool.eq_false_iff:=@Bool.eq_false_iff
theorem eE:type_of% @Go.K.Rg.mv:=@Go.K.Rg.mv
theorem eF:type_of% @Eq.symm:=@Eq.symm
theorem eP:type_of% @Go.K.Rg.mN:=@Go.K.Rg.mN
theorem eV:type_of% @Go.K.Rg.mM:=@Go.K.Rg.mM
theorem eW:type_of% @Go.K.Rg.alloc:=@Go.K.Rg.alloc
theorem eZ:type_of% @List.take_succ_eq_append_getElem:=@List.take_succ_eq_append_getElem
theorem fa:type_of% @Go.K.Rg.dX:=@Go.K.Rg.dX
theorem fc:type_of% @Go.K.bR.move:=@Go.K.bR.move
theorem fg:type_of% @List.mem_map_of_mem:=@List.mem_map_of_mem
theorem fq:type_of% @Option.map_some:=@Option.map_some
theorem fy:type_of% @Go.K.kx.nil:=@Go.K.kx.nil
theorem fI:type_of% @Go.K.Part.snd:=@Go.K.Part.snd
theorem fJ:type_of% @Go.K.bR.load:=@Go.K.bR.load
theorem fK:type_of% @Nat.le_trans:=@Nat.le_trans
theorem fO:type_of% @Bool.false_and:=@Bool.false_and
theorem fP:type_of% @Go.Proofs.Tryz.underlying167:=@Go.Proofs.Tryz.underlying167
theorem fX:type_of% @Go.K.Rg.jl:=@Go.K.Rg.jl
theorem fY:type_of% @List.length_eq_zero_iff:=@List.length_eq_zero_iff
theorem gh:type_of% @Go.Proofs.Tryz.underlying37:=@Go.Proofs.Tryz.underlying37
theorem gj:type_of% @Go.Proofs.Tryz.underlying75:=@Go.Proofs.Tryz.underlying75
theorem gC:type_of% @Go.K.Rg.gm:=@Go.K.Rg.gm
theorem gD:type_of% @List.contains_iff_mem:=@List.contains_iff_mem
theorem gH:type_of% @Go.Proofs.Tryz.underlying0:=@Go.Proofs.Tryz.underlying0
theorem gI:type_of% @Go.Proofs.Tryz.underlying165:=@Go.Proofs.Tryz.underlying165
theorem gO:type_of% @List.length_nil:=@List.length_nil
theorem gT:type_of% @Go.IntWalk.i64_in:=@Go.IntWalk.i64_in
theorem gU:type_of% @Nat.lt_trichotomy:=@Nat.lt_trichotomy
theorem hU:type_of% @Go.K.T.iff:=@Go.K.T.iff
theorem hY:type_of% @Go.K.Rg.makeFunc:=@Go.K.Rg.makeFunc
theorem ia:type_of% @Go.K.Rg.fE:=@Go.K.Rg.fE
theorem ib:type_of% @List.map_cons:=@List.map_cons
theorem ic:type_of% @Nat.lt_irrefl:=@Nat.lt_irrefl
theorem ie:type_of% @Bool.and_true:=@Bool.and_true
theorem iA:type_of% @Go.K.ga.all:=@Go.K.ga.all
theorem iC:type_of% @Go.Proofs.Tryz.underlying98:=@Go.Proofs.Tryz.underlying98
theorem iD:type_of% @Go.Proofs.Tryz.underlying51:=@Go.Proofs.Tryz.underlying51
theorem iG:type_of% @List.cons_append:=@List.cons_append
theorem iH:type_of% @Go.Proofs.Tryz.zeroValue0:=@Go.Proofs.Tryz.zeroValue0
theorem iI:type_of% @Go.Proofs.Tryz.zeroValue3:=@Go.Proofs.Tryz.zeroValue3
theorem iJ:type_of% @Go.Proofs.Tryz.zeroValue9:=@Go.Proofs.Tryz.zeroValue9
theorem ji:type_of% @List.drop_of_length_le:=@List.drop_of_length_le
theorem jj:type_of% @Nat.eq_or_lt_of_le:=@Nat.eq_or_lt_of_le
theorem jk:type_of% @List.pairwise_cons:=@List.pairwise_cons
theorem jx:type_of% @List.nil_append:=@List.nil_append
theorem jy:type_of% @Go.Proofs.Tryz.underlying4:=@Go.Proofs.Tryz.underlying4
theorem jz:type_of% @Nat.not_lt_zero:=@Nat.not_lt_zero
theorem jA:type_of% @Go.K.bR.field:=@Go.K.bR.field
theorem jB:type_of% @List.map_append:=@List.map_append
theorem jN:type_of% @List.getElem?_toArray:=@List.getElem?_toArray
theorem jO:type_of% @Go.Proofs.Tryz.underlying227:=@Go.Proofs.Tryz.underlying227
theorem jP:type_of% @Go.Proofs.Tryz.underlying195:=@Go.Proofs.Tryz.underlying195
theorem ki:type_of% @List.ext_getElem?:=@List.ext_getElem?
theorem kj:type_of% @Go.K.Part.fst:=@Go.K.Part.fst
theorem km:type_of% @Go.K.eg.refl:=@Go.K.eg.refl
theorem kE:type_of% @Nat.pow_le_pow_right:=@Nat.pow_le_pow_right
theorem kF:type_of% @List.mem_append_left:=@List.mem_append_left
theorem kU:type_of% @Nat.mod_eq_of_lt:=@Nat.mod_eq_of_lt
theorem kV:type_of% @Go.Proofs.Tryz.underlying88:=@Go.Proofs.Tryz.underlying88
theorem lA:type_of% @List.take_succ_cons:=@List.take_succ_cons
theorem lB:type_of% @List.length_pos_iff:=@List.length_pos_iff
theorem lC:type_of% @Go.K.T.pN:=@Go.K.T.pN
theorem lD:type_of% @Int.toNat_of_nonneg:=@Int.toNat_of_nonneg
theorem mK:type_of% @Option.map_none:=@Option.map_none
theorem mP:type_of% @Nat.lt_of_lt_of_le:=@Nat.lt_of_lt_of_le
theorem mQ:type_of% @BitVec.toNat_ofInt:=@BitVec.toNat_ofInt
theorem nK:type_of% @Go.K.Rg.uK:=@Go.K.Rg.uK
theorem oh:type_of% @Go.Proofs.Tryz.sizeOf0:=@Go.Proofs.Tryz.sizeOf0
theorem om:type_of% @Go.Proofs.Tryz.sizeOf3:=@Go.Proofs.Tryz.sizeOf3
theorem ot:type_of% @Go.Proofs.Tryz.sizeOf9:=@Go.Proofs.Tryz.sizeOf9
theorem ou:type_of% @List.foldl_append:=@List.foldl_append
theorem ov:type_of% @Go.K.Rg.jn:=@Go.K.Rg.jn
theorem ox:type_of% @Bool.not_eq_true':=@Bool.not_eq_true'
theorem oS:type_of% @Go.Proofs.Tryz.zeroValue4:=@Go.Proofs.Tryz.zeroValue4
theorem oT:type_of% @Go.K.Rg.box:=@Go.K.Rg.box
theorem pL:type_of% @List.take_eq_take_iff:=@List.take_eq_take_iff
theorem pM:type_of% @Array.getElem?_modify:=@Array.getElem?_modify
theorem pQ:type_of% @List.any_eq_true:=@List.any_eq_true
theorem qA:type_of% @Go.K.qG.nil:=@Go.K.qG.nil
theorem qB:type_of% @Go.Proofs.Tryz.underlying26:=@Go.Proofs.Tryz.underlying26
theorem rE:type_of% @Go.Proofs.Tryz.isAgg0:=@Go.Proofs.Tryz.isAgg0
theorem rF:type_of% @Go.Proofs.Tryz.isAgg3:=@Go.Proofs.Tryz.isAgg3
theorem rG:type_of% @Go.Proofs.Tryz.isAgg9:=@Go.Proofs.Tryz.isAgg9
theorem rH:type_of% @List.append_nil:=@List.append_nil
theorem rI:type_of% @List.nodup_cons:=@List.nodup_cons
theorem tR:type_of% @List.getD_cons_zero:=@List.getD_cons_zero
theorem tS:type_of% @List.getD_cons_succ:=@List.getD_cons_succ
theorem tT:type_of% @List.takeWhile_cons:=@List.takeWhile_cons
theorem tX:type_of% @Go.K.Rg.conv:=@Go.K.Rg.conv
namespace Go.K
def put (n:Nat):List UInt8:=if n<128 then[UInt8.ofNat n]else UInt8.ofNat (128+n%128)::put (n/128)
termination_by n
decreasing_by omega
theorem sd {n:Nat} (h:n<128):put n=[UInt8.ofNat n]:=by rw[put,if_pos h]
theorem Ai {n:Nat} (h:128≤n):put n=UInt8.ofNat (128+n%128)::put (n/128):=by rw[put,if_neg (by omega)]
theorem HI (n:Nat):0<(put n).length:=by rw[put];split<;>simp
theorem HJ {k:Nat}:∀{n:Nat},n<128^(k+1)→(put n).length≤k+1:=by
 induction k with
 |zero=>intro n h;rw[sd (by simpa using h)];simp
 |succ k ih=>
  intro n h;by_cases h1:n<128
  ·rw[sd h1];simp
  ·rw[Ai (by omega)];have:=ih (n:=n/128) (by rw[Nat.pow_succ]at h;omega);simp;omega
theorem jc {n:Nat} (h:n≤9223372036854775807):(put n).length≤9:=HJ (k:=8) (by omega)
def k7:List UInt8→Nat→Nat→Option (Nat×Nat)
 |[],_,_=>none
 |c::cs,i,n=>if c.toNat<128 then(if c.toNat=0∧0<i then none else some (n+c.toNat%128*128^i,i+1))else k7 cs (i+1) (n+c.toNat%128*128^i)
def get (b:List UInt8) (at_:Int):Int×Int×Int:=
 if at_<0∨(b.length:Int)<at_ then(0,0,1)
 else match k7 ((b.drop at_.toNat).take 9) 0 0 with
  |some (n,k)=>(n,at_+k,0)
  |none=>(0,0,2)
theorem k8 {bs:List UInt8} {k:Nat} {c:UInt8} (h:bs[k]? =some c) (n:Nat):k7 (bs.drop k) k n=
  if c.toNat<128 then(if c.toNat=0∧0<k then none else some (n+c.toNat%128*128^k,k+1))else k7 (bs.drop (k+1)) (k+1) (n+c.toNat%128*128^k):=by
 obtain⟨dB,he⟩:=av.1 h;rw[dA dB,k7,he]
theorem KN (b:List UInt8) (i:Nat):(b.take (min b.length (i+9))).drop i=(b.drop i).take 9:=by
 rw[List.drop_take,pL];simp;omega
def val:List UInt8→Nat
 |[]=>0
 |c::cs=>c.toNat%128+128*val cs
def eA:Int→List Int→Bool
 |_,[]=>true
 |last,x::l=>decide (last<x)&&eA x l
def jD:Int→List Int→List UInt8
 |_,[]=>[]
 |last,x::l=>put (x-last-1).toNat++jD x l
def dJ (l:List Int):List UInt8:=put l.length++jD (-1) l
def Ju:Int→List Int→List Int
 |_,[]=>[]
 |last,x::l=>let m:=if x<0 then-(x+1)else x;(last+1+m%1000)::Ju (last+1+m%1000) l
def good (l:List Int) (most:Nat):List Int:=Ju (-1) (l.take most)
theorem p8 {b:List UInt8} {at_:Int} (h:(get b at_).2.2=0):0≤at_∧at_<(get b at_).2.1∧(get b at_).2.1≤b.length∧0≤(get b at_).1∧(get b at_).1<9223372036854775808:=by
 unfold get at h ⊢
 split at h
 ·simp at h
 rename_i hr
 rw[if_neg hr]at*
 have key:∀(bs:List UInt8) (i n m k:Nat),k7 bs i n=some (m,k)→bs.length+i≤9→n<128^i→i<k∧k≤i+bs.length∧m<128^k:=by
  intro bs
  induction bs with
  |nil=>intro i n m k h;simp[k7]at h
  |cons c cs ih=>
   intro i n m k h hl hn
   have hd:n+c.toNat%128*128^i<128^(i+1):=by
    have:=Nat.mul_le_mul_right (128^i) (show c.toNat%128≤127 from by omega);rw[Nat.pow_succ];omega
   simp only[k7]at h
   split at h
   ·split at h
    ·cases h
    ·cases h;exact⟨by omega,by simp,hd⟩
   ·obtain⟨h1,h2,h3⟩:=ih (i+1) _ m k h (by simp at hl;omega) hd;exact⟨by omega,by simp;omega,h3⟩
 cases hg:k7 ((b.drop at_.toNat).take 9) 0 0 with
 |none=>simp[hg]at h
 |some p=>
  obtain⟨m,k⟩:=p;have hlen:((b.drop at_.toNat).take 9).length≤9∧((b.drop at_.toNat).take 9).length≤b.length-at_.toNat:=by rw[bS,cN];omega
  obtain⟨h1,h2,h3⟩:=key _ 0 0 m k hg (by omega) (by decide);have hp:128^k≤128^9:=kE (by decide) (by omega);simp only;omega
def fM (b:List UInt8):Nat→Int→Int→Int×List Int×Int
 |0,at_,_=>(0,[],at_)
 |k+1,at_,last=>
  if(get b at_).2.2≠0 then((get b at_).2.2,[],0)
  else if 4611686018427387904-last-1<(get b at_).1 then(2,[],0)
  else if(fM b k (get b at_).2.1 (last+1+(get b at_).1)).1≠0 then((fM b k (get b at_).2.1 (last+1+(get b at_).1)).1,[],0)
  else(0,(last+1+(get b at_).1)::(fM b k (get b at_).2.1 (last+1+(get b at_).1)).2.1,(fM b k (get b at_).2.1 (last+1+(get b at_).1)).2.2)
def fh (b:List UInt8) (at_:Int):Int×List Int×Int:=
 if(get b at_).2.2≠0 then((get b at_).2.2,[],0)else fM b (get b at_).1.toNat (get b at_).2.1 (-1)
theorem eR {l:List Int} {k:Nat} {x:Int} (h:l[k]? =some x) (last:Int):eA last (l.drop k)=(decide (last<x)&&eA x (l.drop (k+1))):=by
 obtain⟨dB,he⟩:=av.1 h;rw[dA dB,eA,he]
theorem CG {l:List Int} {k:Nat} {x:Int} (h:l[k]? =some x) (last:Int):jD last (l.drop k)=put (x-last-1).toNat++jD x (l.drop (k+1)):=by
 obtain⟨dB,he⟩:=av.1 h;rw[dA dB,jD,he]
theorem sf:∀(l:List Int) (last:Int),-1≤last→(∀x∈l,x≤9223372036854775807)→eA last l=true→(jD last l).length≤9*l.length
 |[],_,_,_,_=>by simp[jD]
 |x::l,last,h1,h2,h3=>by
  simp only[eA,bC,decide_eq_true_eq]at h3;have hx:=h2 x (bY ..);have h4:=sf l x (by omega) (fun y hy=>h2 y (cp _ hy)) h3.2;have h5:=jc (n:=(x-last-1).toNat) (by omega);simp only[jD,bL,cr];omega
theorem sh (b:List UInt8) (a last:Int):fM b 0 a last=(0,[],a):=rfl
theorem oD {b:List UInt8} {k:Nat} {a last:Int} (h:(get b a).2.2≠0):fM b (k+1) a last=((get b a).2.2,[],0):=by rw[fM,if_pos h]
theorem p9 {b:List UInt8} {k:Nat} {a last:Int} (h:(get b a).2.2=0) (h2:4611686018427387904-last-1<(get b a).1):fM b (k+1) a last=(2,[],0):=by
 rw[fM,if_neg (by simpa using h),if_pos h2]
theorem si {b:List UInt8} {k:Nat} {a last:Int} (h:(get b a).2.2=0) (h2: ¬4611686018427387904-last-1<(get b a).1):fM b (k+1) a last=
  if(fM b k (get b a).2.1 (last+1+(get b a).1)).1≠0 then((fM b k (get b a).2.1 (last+1+(get b a).1)).1,[],0)
  else(0,(last+1+(get b a).1)::(fM b k (get b a).2.1 (last+1+(get b a).1)).2.1,(fM b k (get b a).2.1 (last+1+(get b a).1)).2.2):=by
 rw[fM,if_neg (by simpa using h),if_neg h2]
def andThen (acc:List Int) (r:Int×List Int×Int):Int×List Int×Int:=if r.1≠0 then(r.1,[],0)else(0,acc++r.2.1,r.2.2)
theorem lK {b:List UInt8} {k:Nat} {a last:Int} (acc:List Int) (h:(get b a).2.2=0) (h2: ¬4611686018427387904-last-1<(get b a).1):
  andThen acc (fM b (k+1) a last)=andThen (acc++[last+1+(get b a).1]) (fM b k (get b a).2.1 (last+1+(get b a).1)):=by
 rw[si h h2];unfold andThen;by_cases h3:(fM b k (get b a).2.1 (last+1+(get b a).1)).1=0<;>simp[h3]
theorem yh (r:Int×List Int×Int) (h:r.1≠0→r.2=([],0)):andThen [] r=r:=by
 unfold andThen;by_cases h3:r.1=0
 ·rw[if_neg (by simpa using h3)];ext<;>simp[h3]
 ·rw[if_pos h3,←h h3]
theorem CH (b:List UInt8):∀(k:Nat) (a last:Int),(fM b k a last).1≠0→(fM b k a last).2=([],0)
 |0,a,last,h=>by simp[fM]at h
 |k+1,a,last,h=>by
  rw[fM]at h ⊢
  split
  ·rfl
  ·rename_i h1;rw[if_neg h1]at h
   split
   ·rfl
   ·rename_i h2;rw[if_neg h2]at h
    split
    ·rfl
    ·rename_i h3;rw[if_neg h3]at h;simp at h
theorem lL (b:List UInt8) (a:Int):0≤(get b a).1∧0≤(get b a).2.2∧(get b a).2.2≤2∧((get b a).2.2≠0→(get b a).1=0∧(get b a).2.1=0):=by
 unfold get
 split
 ·simp
 ·split<;>simp<;>omega
theorem uY (b:List UInt8) (a:Int):(get b a).1≤9223372036854775807:=by
 by_cases h:(get b a).2.2=0
 ·have:=p8 h;omega
 ·have:=(lL b a).2.2.2 h;omega
theorem Eh:∀(k m i acc:Nat) (post:List UInt8),m<128^(k+1)→(0<i→m≠0)→k7 ((put m++post).take (k+1)) i acc=some (acc+m*128^i,i+(put m).length):=by
 intro k
 induction k with
 |zero=>
  intro m i acc post h h0;have hm:m<128:=by simpa using h
  have e:(UInt8.ofNat m).toNat=m:=by rw[UInt8.toNat_ofNat'];omega
  rw[sd hm];simp only[iG,jx,lA,k7,e];rw[if_pos hm,if_neg (by omega),kU hm];rfl
 |succ k ih=>
  intro m i acc post h h0;by_cases hm:m<128
  ·have e:(UInt8.ofNat m).toNat=m:=by rw[UInt8.toNat_ofNat'];omega
   rw[sd hm];simp only[iG,jx,lA,k7,e];rw[if_pos hm,if_neg (by omega),kU hm];rfl
  ·have e:(UInt8.ofNat (128+m%128)).toNat=128+m%128:=by rw[UInt8.toNat_ofNat'];omega
   rw[Ai (by omega)];simp only[iG,lA,k7,e];rw[if_neg (by omega),ih (m/128) (i+1) _ post (by rw[Nat.pow_succ]at h;omega) (by omega)];have h2:(128+m%128)%128=m%128:=by omega
   rw[h2,Nat.pow_succ];congr 2
   ·have h3:m=m%128+128*(m/128):=by omega
    have h4:m*128^i=(m%128)*128^i+(m/128)*(128^i*128):=by
     conv=>lhs;rw[h3]
     rw[Nat.add_mul,Nat.mul_comm 128 (m/128),Nat.mul_assoc,Nat.mul_comm 128 (128^i)]
    omega
   ·simp;omega
theorem wF (pre post:List UInt8) {n:Nat} (hn:n≤9223372036854775807):get (pre++put n++post) pre.length=((n:Int),((pre.length+(put n).length:Nat):Int),0):=by
 unfold get;rw[if_neg (by simp;omega)]
 have h1:((pre++put n++post).drop (pre.length:Int).toNat).take 9=(put n++post).take (8+1):=by
  rw[az,List.append_assoc,List.drop_left]
 rw[h1,Eh 8 n 0 0 post (by omega) (by omega)];simp
theorem uZ:∀(l:List Int) (pre post:List UInt8) (last:Int),-1≤last→eA last l=true→(∀x∈l,x≤4611686018427387904)→
  fM (pre++jD last l++post) l.length pre.length last=(0,l,((pre.length+(jD last l).length:Nat):Int))
 |[],pre,post,last,_,_,_=>by simp[jD,fM]
 |x::l,pre,post,last,h1,h2,h3=>by
  simp only[eA,bC,decide_eq_true_eq]at h2;have hx:=h3 x (bY ..);have e0:pre++jD last (x::l)++post=pre++put (x-last-1).toNat++(jD x l++post):=by simp[jD]
  have e1:=wF pre (jD x l++post) (n:=(x-last-1).toNat) (by omega);have e2:pre++put (x-last-1).toNat++(jD x l++post)=(pre++put (x-last-1).toNat)++jD x l++post:=by simp
  have ih:=uZ l (pre++put (x-last-1).toNat) post x (by omega) h2.2 (fun y hy=>h3 y (cp _ hy));rw[e0,cr,si (by rw[e1]) (by rw[e1];simp only;omega),e1];simp only;have e3:last+1+(((x-last-1).toNat:Nat):Int)=x:=by omega
  rw[e3,e2,show((pre.length+(put (x-last-1).toNat).length:Nat):Int)=((pre++put (x-last-1).toNat).length:Int)from by simp,ih];simp[jD];omega
theorem ue (pre post:List UInt8) {l:List Int} (hr:eA (-1) l=true) (h3:∀x∈l,x≤4611686018427387904) (hl:l.length≤9223372036854775807):
  fh (pre++dJ l++post) pre.length=(0,l,((pre.length+(dJ l).length:Nat):Int)):=by
 have e0:pre++dJ l++post=pre++put l.length++(jD (-1) l++post):=by simp[dJ]
 have e1:=wF pre (jD (-1) l++post) (n:=l.length) hl;have e2:pre++put l.length++(jD (-1) l++post)=(pre++put l.length)++jD (-1) l++post:=by simp
 unfold fh;rw[e0,e1,if_neg (by simp)];simp only;have:=uZ l (pre++put l.length) post (-1) (by omega) hr h3;rw[e2,show((pre.length+(put l.length).length:Nat):Int)=((pre++put l.length).length:Int)from by simp,az,this];simp[dJ];omega
end Go.K
namespace Go.K
abbrev Po:=Int×List Int
abbrev Bl:=Int×Int×Int×Int
abbrev Li:=List UInt8×List Bl×Int
abbrev RT.po:RT Po:=RT.pair (RT.int .i64) ((RT.int .i64).sl)
abbrev RT.bl:RT Bl:=RT.pair (RT.int .i64) (RT.pair (RT.int .i64) (RT.pair (RT.int .i64) (RT.int .i64)))
abbrev RT.li:RT Li:=RT.pair (RT.u8.sl) (RT.pair ((RT.bl).sl) (RT.int .i64))
theorem Hi:Part RT.po (RT.int .i64) (fun p=>p.1) 0:=kj _ _
theorem OE:Part RT.po ((RT.int .i64).sl) (fun p=>p.2) 1:=fI _ _
theorem bl0:Part RT.bl (RT.int .i64) (fun b=>b.1) 0:=kj _ _
theorem bl1:Part RT.bl (RT.int .i64) (fun b=>b.2.1) 1:=(fI _ _).trans (kj _ _)
theorem bl2:Part RT.bl (RT.int .i64) (fun b=>b.2.2.1) 2:=(fI _ _).trans ((fI _ _).trans (kj _ _))
theorem bl3:Part RT.bl (RT.int .i64) (fun b=>b.2.2.2) 3:=(fI _ _).trans ((fI _ _).trans (fI _ _))
theorem li0:Part RT.li (RT.u8.sl) (fun x=>x.1) 0:=kj _ _
theorem Sf:Part RT.li ((RT.bl).sl) (fun x=>x.2.1) 1:=(fI _ _).trans (kj _ _)
def Ei (n:Nat) (k:Int):Bool:=decide (0≤k∧k<n)
def yi (bs:List Bl) (k:Int):Int:=if Ei bs.length k then(bs.getD k.toNat (0,0,0,0)).2.2.1 else-1
def dy:Int→List Po→List UInt8
 |_,[]=>[]
 |last,(d,ps)::l=>put (d-last-1).toNat++dJ ps++dy d l
def bW:Int→List Po→Int
 |last,[]=>last
 |_,(d,_)::l=>bW d l
def gu (l:List Po):Int:=(l.map fun p=>(p.2.length:Int)).sum
theorem o2 (l l':List Po) (last:Int):dy last (l++l')=dy last l++dy (bW last l) l':=by
 induction l generalizing last with
 |nil=>rfl
 |cons p l ih=>obtain⟨d,ps⟩:=p;simp[dy,bW,ih]
theorem ug (l l':List Po) (last:Int):bW last (l++l')=bW (bW last l) l':=by
 induction l generalizing last with
 |nil=>rfl
 |cons p l ih=>obtain⟨d,ps⟩:=p;simp[bW,ih]
theorem o3 (l l':List Po):gu (l++l')=gu l+gu l':=by simp[gu]
def o4 (l:List Po) (k:Nat):Bl:=((dy (-1) (l.take (8*k))).length,bW (-1) (l.take (8*k)),bW (-1) (l.take (8*k+8)),((l.drop (8*k)).take 8).length)
def mz (l:List Po) (m:Nat):List Bl:=(List.range m).map (o4 l)
def gK (l:List Po):Li:=(dy (-1) l,mz l ((l.length+7)/8),gu l)
def lM (l:List Int):Bool:=eA (-1) l&&l.all (fun n=>decide (n<2147483648))
def dP:Int→List Po→Bool
 |_,[]=>true
 |last,(d,ps)::l=>decide (last<d)&&decide (d<2147483648)&& !ps.isEmpty&&lM ps&&dP d l
theorem mV:∀{l:List Po} {i:Nat} {last d:Int} {ps:List Int},dP last l=true→l[i]? =some (d,ps)→
  bW last (l.take i)<d∧d<2147483648∧ps≠[]∧lM ps=true∧bW last (l.take (i+1))=d∧last≤bW last (l.take i)
 |[],i,_,_,_,_,h=>by simp at h
 |(d0,p0)::l,0,last,d,ps,hm,h=>by
  simp only[List.getElem?_cons_zero,Option.some.injEq,Prod.mk.injEq]at h;obtain⟨rfl,rfl⟩:=h;simp only[dP,bC,decide_eq_true_eq]at hm;obtain⟨⟨⟨⟨h1,h2⟩,h3⟩,h4⟩,h5⟩:=hm;refine⟨h1,h2,?_,h4,by simp[bW],by simp[bW]⟩;rintro rfl;simp at h3
 |(d0,p0)::l,i+1,last,d,ps,hm,h=>by
  simp only[dP,bC,decide_eq_true_eq]at hm;obtain⟨⟨⟨⟨h1,h2⟩,h3⟩,h4⟩,h5⟩:=hm;obtain⟨a1,a2,a3,a4,a5,a6⟩:=mV (i:=i) h5 (by simpa using h);refine⟨by simpa[bW]using a1,a2,a3,a4,by simpa[bW]using a5,?_⟩;simp only[lA,bW];omega
theorem sk {l:List Po} {i:Nat} {d:Int} {ps:List Int} (last:Int) (h:l[i]? =some (d,ps)):
  dy last (l.take (i+1))=dy last (l.take i)++put (d-bW last (l.take i)-1).toNat++dJ ps:=by
 obtain⟨h1,h2⟩:=av.1 h;rw[eZ h1,h2,o2];simp[dy]
theorem mW {l:List Po} {i:Nat} (last:Int):dy last l=dy last (l.take i)++dy (bW last (l.take i)) (l.drop i):=by
 conv=>lhs;rw[←List.take_append_drop i l]
 exact o2 _ _ _
theorem lN {l:List Int}:lM l=true↔eA (-1) l=true∧∀x∈l,x<2147483648:=by
 simp[lM]
def nW (b:List UInt8) (at_ ahead:Int):Po×Int×Int:=
 if(get b at_).2.2≠0 then((0,[]),0,(get b at_).2.2)
 else((IntKind.i64.wrap (IntKind.i64.wrap (ahead+1)+(get b at_).1),(fh b (get b at_).2.1).2.1),(fh b (get b at_).2.1).2.2,(fh b (get b at_).2.1).1)
theorem Ej {l:List Po} {i:Nat} {d:Int} {ps:List Int} (hm:dP (-1) l=true) (h:l[i]? =some (d,ps)) (hl:ps.length≤1099511627776):
  nW (dy (-1) l) (((dy (-1) (l.take i)).length:Nat):Int) (bW (-1) (l.take i))=((d,ps),(((dy (-1) (l.take (i+1))).length:Nat):Int),0):=by
 obtain⟨h1,h2,h3,h4,h5,h6⟩:=mV hm h;obtain⟨h7,h8⟩:=lN.1 h4;have e1:=mW (l:=l) (i:=i+1) (-1);have e2:=sk (-1) h;generalize Za:bW (-1) (l.take i)=last at h1 h6 e2 ⊢;generalize Cw:dy (-1) (l.take i)=pre at e2 ⊢;generalize dy (bW (-1) (l.take (i+1))) (l.drop (i+1))=post at e1;rw[e2]at e1 ⊢;have g1:=wF pre (dJ ps++post) (n:=(d-last-1).toNat) (by omega);have g2:=ue (pre++put (d-last-1).toNat) post h7 (fun x hx=>by have:=h8 x hx;omega) (by omega);rw[show pre++put (d-last-1).toNat++(dJ ps++post)=dy (-1) l from by rw[e1];simp]at g1;rw[←e1]at g2;unfold nW;rw[g1];simp only[ne_eq,not_true_eq_false,if_false];have yc:((pre.length+(put (d-last-1).toNat).length:Nat):Int)=((pre++put (d-last-1).toNat).length:Int):=by simp
 rw[yc,g2];refine Prod.ext (Prod.ext ?_ rfl) (Prod.ext ?_ rfl)
 ·simp only;rw[gT (last+1) (by omega),gT _ (by omega)];omega
 ·simp;omega
theorem mX {l:List Int} {k:Nat} {x:Int} (p:Int→Bool) (h:l[k]? =some x):(l.drop k).all p=(p x&&(l.drop (k+1)).all p):=by
 obtain⟨h1,h2⟩:=av.1 h;rw[dA h1,h2,List.all_cons]
theorem j4 {l:List Po} {k:Nat} {d:Int} {ps:List Int} (h:l[k]? =some (d,ps)) (last:Int):
  dP last (l.drop k)=(decide (last<d)&&decide (d<2147483648)&& !ps.isEmpty&&lM ps&&dP d (l.drop (k+1))):=by
 obtain⟨h1,h2⟩:=av.1 h;rw[dA h1,h2,dP]
theorem sm {l:List Po} {i:Nat} {d:Int} {ps:List Int} (h:l[i]? =some (d,ps)):gu (l.take (i+1))=gu (l.take i)+ps.length:=by
 obtain⟨h1,h2⟩:=av.1 h;rw[eZ h1,h2,o3];simp[gu]
theorem lO (l:List Po):0≤gu l:=by
 induction l with
 |nil=>simp[gu]
 |cons p l ih=>simp only[gu,ib,List.sum_cons]at ih ⊢;omega
theorem yj (l:List Po) (i:Nat):0≤gu (l.take i)∧gu (l.take i)≤gu l:=by
 refine⟨lO _,?_⟩
 conv=>rhs;rw[←List.take_append_drop i l,o3]
 have:=lO (l.drop i);omega
theorem kK (l:List Po) (i:Nat):(dy (-1) (l.take i)).length≤(dy (-1) l).length:=by
 rw[mW (l:=l) (i:=i) (-1)];simp
theorem CI (l:List Po) (k:Nat):mz l (k+1)=mz l k++[o4 l k]:=by simp[mz,List.range_succ]
theorem iN:∀(l:List Po) (last:Int),dP last l=true→last<2147483648→∀n:Nat,last≤bW last (l.take n)∧bW last (l.take n)<2147483648
 |[],last,_,h,n=>by simp[bW];exact h
 |(d,ps)::l,last,hm,h,0=>by simp[bW];exact h
 |(d,ps)::l,last,hm,h,n+1=>by
  simp only[dP,bC,decide_eq_true_eq]at hm;obtain⟨⟨⟨⟨h1,h2⟩,h3⟩,h4⟩,h5⟩:=hm;have:=iN l d h5 h2 n;simp only[lA,bW];omega
theorem TL {M:aA} {w:World} {a b c d:Int} (ha: -9223372036854775808≤a∧a≤9223372036854775807) (hb: -9223372036854775808≤b∧b≤9223372036854775807) (hc: -9223372036854775808≤c∧c≤9223372036854775807) (hd: -9223372036854775808≤d∧d≤9223372036854775807):
  RT.bl.V M w (a,b,c,d) (.agg [.int .i64 a,.int .i64 b,.int .i64 c,.int .i64 d].toArray):=
 ⟨_,⟨[.int .i64 a],[.int .i64 b,.int .i64 c,.int .i64 d],rfl,⟨rfl,ha⟩,[.int .i64 b],[.int .i64 c,.int .i64 d],rfl,⟨rfl,hb⟩,[.int .i64 c],[.int .i64 d],rfl,⟨rfl,hc⟩,⟨rfl,hd⟩⟩,rfl⟩
theorem OF {M:aA} {w:World} {bx:Nat} {b:List UInt8} {ks:List Bl} {tot:Int} {vb vk:Value} {e:TypeId} {fr:Nat×Nat} (hx:w.heap[bx]? =some (.cells #[vb,vk,.int .i64 tot] e fr)) (hm: ¬M bx) (hb:(RT.u8.sl).V M w b vb) (hk:((RT.bl).sl).V M w ks vk) (ht: -9223372036854775808≤tot∧tot≤9223372036854775807):
  ch RT.li M w (.pointer (some ⟨bx,0,none⟩)) (b,ks,tot):=
 ⟨bx,0,[vb,vk,.int .i64 tot],rfl,hm,⟨[vb],[vk,.int .i64 tot],rfl,j3 hb rfl rfl,[vk],[.int .i64 tot],rfl,j3 hk rfl rfl,⟨rfl,ht⟩⟩,fun j v hj=>gE hx (by simpa using hj)⟩
theorem Ek {l:List Po} {i:Nat} (h8:i%8=0) (hi:i<l.length):mz l ((i+7)/8)++[(((dy (-1) (l.take i)).length:Int),bW (-1) (l.take i),bW (-1) (l.take (min (i+8) l.length)),(((l.drop i).take 8).length:Int))]=mz l ((min (i+8) l.length+7)/8):=by
 rw[show(min (i+8) l.length+7)/8=(i+7)/8+1 from by omega,CI];have e:8*((i+7)/8)=i:=by omega
 have e2:l.take (i+8)=l.take (min (i+8) l.length):=by rw[pL];omega
 simp only[o4,e,e2]
theorem mY:∀(l:List Po) (last:Int) (n m:Nat),dP last l=true→last<2147483648→n≤m→bW last (l.take n)≤bW last (l.take m)
 |[],last,n,m,_,_,_=>by simp
 |(d,ps)::l,last,0,m,hm,h,_=>by
  have:=(iN ((d,ps)::l) last hm h m).1;simpa[bW]using this
 |(d,ps)::l,last,n+1,0,_,_,h=>by omega
 |(d,ps)::l,last,n+1,m+1,hm,h,TM=>by
  simp only[dP,bC,decide_eq_true_eq]at hm;obtain⟨⟨⟨⟨h1,h2⟩,h3⟩,h4⟩,h5⟩:=hm;simpa[bW]using mY l d n m h5 h2 (by omega)
theorem yk {g:List Po} {k:Nat} (hk:k<(g.length+7)/8):yi (gK g).2.1 (k:Int)=bW (-1) (g.take (8*k+8)):=by
 have hl:(gK g).2.1.length=(g.length+7)/8:=by simp[gK,mz]
 have hb:(gK g).2.1[k]? =some (o4 g k):=by simp only[gK,mz,ew];rw[List.getElem?_range hk];rfl
 unfold yi Ei;rw[if_pos (by rw[hl];simp;omega),az,bH,hb];rfl
end Go.K
namespace Go.K
section
variable {P:Program} {r:Option Nat} {n:Nat} {L:Sl} {ds:List Deferred} {w:World} {K:Kt} {ops:Array Oper} {rest:List Oper} {d:Nat} {x y:Operand} {ty:TypeId} {pos:String} {af:Array Edge}
theorem Rg.so {t t' e:TypeId} {p:Option Addr} (ht:P.underlying t=some (.pointer e)) (hx:ev L x=some (.pointer p)) (hy:ev L y=some (.pointer none)) (hd:Nat.blt d n=true)
  (k:Rg P r n ops rest ((d,.bool (decide (p=none)))::L) ds w K):
  Rg P r n ops ({dst:=some d,op:= .binOp .eql t x y t',type:=ty,pos,after:=af,guard:=none}::rest) L ds w K:=
 .op (fun _ h=>by cases h) rfl rfl hd _ w (fun ρ h=>by
  have TH:P.underlying t=some (.pointer (P.pointee t)):=by simp[Program.pointee,ht]
  have he:=run_equal_pointer_nil (P:=P) w t p TH;simp only[execOp];rw[h x _ hx,h y _ hy]
  cases p<;>simp[eqGuard,binOp,run_underlying ht,he]) k
end
end Go.K
namespace Go.K
def idx:List Po→Int→Nat
 |[],_=>0
 |p::l,to=>if p.1<to then idx l to+1 else 0
theorem El:∀(l:List Po) (to:Int),idx l to≤l.length
 |[],_=>bj _
 |p::l,to=>by
  have:=El l to;simp only[idx,cr];split<;>omega
theorem Aj:∀{l:List Po} {to:Int} {j:Nat} {p:Po},j<idx l to→l[j]? =some p→p.1<to
 |[],_,_,_,h,_=>by simp[idx]at h
 |q::l,to,j,p,h,hp=>by
  simp only[idx]at h
  split at h
  ·cases j with
   |zero=>simp at hp;subst hp;assumption
   |succ j=>exact Aj (l:=l) (j:=j) (by omega) (by simpa using hp)
  ·omega
theorem wG:∀{l:List Po} {to:Int} {p:Po},l[idx l to]? =some p→to≤p.1
 |[],_,_,h=>by simp[idx]at h
 |q::l,to,p,h=>by
  simp only[idx]at h
  split at h
  ·exact wG (by simpa using h)
  ·simp at h;subst h;omega
theorem BO:∀{l:List Po} {to:Int} {e:Nat} {p:Po},l[e]? =some p→to≤p.1→idx l to≤e
 |[],_,_,_,h,_=>by simp at h
 |q::l,to,e,p,h,hp=>by
  simp only[idx]
  split
  ·cases e with
   |zero=>simp at h;subst h;omega
   |succ e=>have:=BO (l:=l) (e:=e) (by simpa using h) hp;omega
  ·omega
theorem idx_eq {l:List Po} {to:Int} {i:Nat} (h1:∀j,j<i→∀p,l[j]? =some p→p.1<to) (h2:∀p,l[i]? =some p→to≤p.1) (h3:i≤l.length):idx l to=i:=by
 rcases gU (idx l to) i with h|h|h
 ·have hx:l[idx l to]? =some l[idx l to]:=aL (by omega);have:=wG hx;have:=h1 _ h _ hx;omega
 ·exact h
 ·have:=El l to;have hx:l[i]? =some l[i]:=aL (by omega);have:=Aj h hx;have:=h2 _ hx;omega
def eB (l:List Po) (i:Int):Int:=if i<0 then-1 else match l[i.toNat]? with|some p=>p.1|none=>2147483648
def k9 (l:List Po) (i:Int):List Int:=if i<0 then[]else match l[i.toNat]? with|some p=>p.2|none=>[]
def jo (l:List Po) (i:Int):List Po:=if i<0 then[]else(l.drop i.toNat).take (8-i.toNat%8)
def qa (l:List Po) (i to:Int):Int:=if to≤eB l i then i else idx l to
theorem lP {l:List Po} {i:Nat} {d:Int} {ps:List Int} (hm:dP (-1) l=true) (h:l[i]? =some (d,ps)):0≤d∧d<2147483648:=by
 obtain⟨f1,f2,f3,f4,f5,f6⟩:=mV hm h;omega
theorem gQ {l:List Po} {i:Nat} {d:Int} {ps:List Int} (h:l[i]? =some (d,ps)):eB l (i:Int)=d:=by
 unfold eB;rw[if_neg (by omega),az,h]
theorem CJ {l:List Po} {i:Int} (h:i<0):eB l i= -1:=by unfold eB;rw[if_pos h]
theorem qb {l:List Po} {i:Int} (h:(l.length:Int)≤i):eB l i=2147483648:=by
 unfold eB;rw[if_neg (by omega),dI (by omega)]
theorem jd (l:List Po) (i:Int):(i<0∧eB l i= -1∧k9 l i=[])∨(∃j:Nat,∃d ps,i=j∧l[j]? =some (d,ps)∧eB l i=d∧k9 l i=ps)∨((l.length:Int)≤i∧eB l i=2147483648∧k9 l i=[]):=by
 by_cases h0:i<0
 ·exact .inl ⟨h0,CJ h0,by unfold k9;rw[if_pos h0]⟩
 ·by_cases h1:(l.length:Int)≤i
  ·exact .inr (.inr ⟨h1,qb h1,by unfold k9;rw[if_neg h0,dI (by omega)]⟩)
  ·obtain⟨j,rfl⟩:∃j:Nat,i=j:=⟨i.toNat,by omega⟩;obtain⟨⟨d,ps⟩,hx⟩:∃x,l[j]? =some x:=⟨_,aL (by omega)⟩;exact .inr (.inl ⟨j,d,ps,rfl,hx,gQ hx,by unfold k9;rw[if_neg h0,az,hx]⟩)
theorem u1 {l:List Po} (hm:dP (-1) l=true) (i:Int): -1≤eB l i∧eB l i≤2147483648:=by
 rcases jd l i with⟨_,h,_⟩|⟨j,d,ps,rfl,hx,h,_⟩|⟨_,h,_⟩
 ·omega
 ·have:=lP hm hx;omega
 ·omega
theorem vf {g:List Po} {i:Nat} {d:Int} {ps:List Int} (h:g[i]? =some (d,ps)) (last:Int):bW last (g.take (i+1))=d:=by
 obtain⟨h1,h2⟩:=av.1 h;rw[eZ h1,h2,ug];rfl
theorem wH {l:List Po} (hm:dP (-1) l=true) {t s:Nat} {p:Po} (hp:l[t]? =some p) (Ea:t<s):p.1≤bW (-1) (l.take s):=by
 obtain⟨d,ps⟩:=p;rw[←vf hp (-1)];exact mY l (-1) (t+1) s hm (by decide) Ea
theorem BP {l:List Po} (hm:dP (-1) l=true) {t s:Nat} {p q:Po} (hp:l[t]? =some p) (hq:l[s]? =some q) (Ea:t<s):p.1<q.1:=by
 obtain⟨e,qs⟩:=q;have h1:=wH hm hp Ea;have h2:=(mV hm hq).1;omega
theorem vg {l lf:List Po} (hm:dP (-1) l=true) {s k:Nat} {to:Int} (h1:8*k≤s) (h2:s<8*k+8) (hs:s<l.length) (Em:bW (-1) (l.take s)<to) (OG:to≤bW (-1) (l.take (8*k+8)))
  (KO:lf=(l.drop s).take (8*k+8-s)):idx l to=s+idx lf to∧idx lf to<lf.length∧idx l to<l.length∧idx l to/8=k∧lf.drop (idx lf to)=jo l (idx l to:Nat):=by
 have ND:s≤idx l to:=by
  rcases cK (idx l to) s with h|h
  ·have hx:l[idx l to]? =some l[idx l to]:=aL (by omega);have:=wG hx;have:=wH hm hx h;omega
  ·exact h
 obtain⟨⟨d,ps⟩,he⟩:∃x,l[min (8*k+8) l.length-1]? =some x:=⟨_,aL (by omega)⟩
 have hde:bW (-1) (l.take (8*k+8))=d:=by
  rw[←vf he (-1),show l.take (8*k+8)=l.take (min (8*k+8) l.length-1+1)from by rw[pL];omega]
 have pZ:=BO he (to:=to) (by simp only;omega);have Hz:lf.length=min (8*k+8-s) (l.length-s):=by rw[KO,bS,cN]
 have fT:∀t,t<lf.length→lf[t]? =l[s+t]? :=fun t ht=>by rw[KO,dF,if_pos (by omega),List.getElem?_drop]
 have Sc:idx lf to=idx l to-s:=by
  refine idx_eq (fun j hj p hp=>?_) (fun p hp=>?_) (by omega)
  ·have pO:=(av.1 hp).1;rw[fT j pO]at hp;exact Aj (by omega) hp
  ·have pO:=(av.1 hp).1;rw[fT _ pO,show s+(idx l to-s)=idx l to from by omega]at hp;exact wG hp
 refine⟨by omega,by omega,by omega,by omega,?_⟩;unfold jo;rw[if_neg (by omega),az,Sc,KO,List.drop_take,List.drop_drop,show s+(idx l to-s)=idx l to from by omega,pL,cN];omega
theorem HK {l:List Po} (hm:dP (-1) l=true) {to:Int} {n:Nat} (hn:l.length≤n) (Em:bW (-1) (l.take n)<to):idx l to=l.length:=by
 refine idx_eq (fun j hj p hp=>?_) (fun p hp=>?_) (bj _)
 ·have:=wH hm hp (s:=n) (by omega);omega
 ·simp at hp
theorem CK {l:List Po} (hm:dP (-1) l=true) {i k to:Int} (hi: -1≤i∧i≤l.length) (hk: -1≤k∧k<((l.length+7)/8:Nat)) (OH:i<0→k= -1) (pP:0≤i→i<l.length→k=i/8) (OA:eB l i<to):
  bW (-1) (l.take (8*(max k 0).toNat))<to:=by
 rcases jd l i with⟨h0,h,_⟩|⟨j,d,ps,rfl,hx,h,_⟩|⟨h0,h,_⟩
 ·rw[OH h0];simp only[show(max (-1:Int) 0).toNat=0 from by decide,Nat.mul_zero,List.take_zero,bW];omega
 ·have hj:=(av.1 hx).1;have yb:=pP (by omega) (by omega);have h2:=(mV hm hx).1;have h3:=mY l (-1) (8*(max k 0).toNat) j hm (by decide) (by omega);omega
 ·have:=(iN l (-1) hm (by decide) (8*(max k 0).toNat)).2;omega
def Cu (T:TypeId) (l:List Po) (i:Int) (M:aA) (w:World) (bc:Nat):Prop:=
 ∃(p u:Value) (k DG:Int),M bc∧w.heap[bc]? =some (.cells #[p,.int .i64 k,u,.int .i64 (eB l i),.int .i64 DG] T (0,0))∧ch RT.li M w p (gK l)∧((RT.po).sl).V M w (jo l i) u∧
  (-1≤i∧i≤l.length)∧(-1≤k∧k<((l.length+7)/8:Nat))∧(i<0→k= -1)∧(0≤i→i<l.length→k=i/8)
theorem Cu.step {T:TypeId} {l:List Po} {i:Int} {M M' N:aA} {w w':World} {bc:Nat} (h:Cu T l i M w bc) (s:Step M w M' w' N) (hn: ¬N bc):Cu T l i M' w' bc:=by
 obtain⟨p,u,k,DG,h1,h2,h3,h4,h5⟩:=h;exact⟨p,u,k,DG,(s.mem bc (ak h2)).2 h1,s.bF h2 hn,h3.le (by decide) s.le,h4.le s.le,h5⟩
theorem KP {M:aA} {w:World} {d:Int} {ps:List Int} {v:Value} (h:RT.po.V M w (d,ps) v):∃u,v= .agg #[.int .i64 d,u]∧u.oneCell'=true∧(-9223372036854775808≤d∧d≤9223372036854775807):=by
 obtain⟨vs,⟨va,vb,rfl,⟨rfl,hd⟩,hb⟩,rfl⟩:=h;obtain⟨a,cap,rfl,_⟩:=hb;exact⟨_,rfl,rfl,hd⟩
end Go.K
namespace Go.K
section
variable {P:Program} {r:Option Nat} {n:Nat} {L:Sl} {ds:List Deferred} {w:World}
theorem wI {fn:Func} {Q:Value→World→Prop} {c t b:Nat} {vs:List Value} {fs:TypeDesc} {e:TypeId} {fr:Nat×Nat} {zv:Value} {size bytes:Nat} (hr:fn.results= #[.cell c t]) (hc:lk L c=some (.pointer (some ⟨b,0,none⟩))) (hu:P.underlying t=some fs) (hf:fs.isRow=true) (hi:TI P t zv size bytes) (hl:vs.length=size)
  (hb:w.heap[b]? =some (.cells vs.toArray e fr)) (h:Q (.agg vs.toArray) w):rM P fn Q .ret L [] w:=
 ⟨rfl,fun a ha=>⟨_,by
  obtain⟨i,uL,_,zU,_⟩:=hi.get;have KM:w.rangeAt b 0 vs:=fun j v hj=>gE hb (by simpa using hj)
  have:=run_loadVar_mid (P:=P) w b 0 t vs fs KM hu hf (by simp[uL,zU,hl]);simp[results,hr,ha _ _ hc,asAddr,this,cQ],h⟩⟩
end
end Go.K
namespace Go.K
section
variable {P:Program} {r:Option Nat} {n:Nat} {L:Sl} {ds:List Deferred} {w:World} {K:Kt} {ops:Array Oper} {rest:List Oper} {d:Nat} {x y i:Operand} {ty:TypeId} {pos:String} {af:Array Edge}
theorem Rg.uh {t e:TypeId} {κ:IntKind} {j:Int} {b len cap bytes:Nat} {zv:Value} (ht:P.underlying t=some (.slice e)) (hi:TI P e zv 1 bytes) (hx:ev L x=some (.slice (some ⟨b,0,none⟩) len cap)) (DT:ev L i=some (.int κ j)) (hd:Nat.blt d n=true) (hj:0≤j∧j<len)
  (k:Rg P r n ops rest ((d,.pointer (some ⟨b,j.toNat,none⟩))::L) ds w K):
  Rg P r n ops ({dst:=some d,op:= .indexAddr t x i,type:=ty,pos,after:=af,guard:=none}::rest) L ds w K:=
 .op (fun _ h=>by cases h) rfl rfl hd _ w (fun ρ h=>by
  simp only[execOp,h x _ hx,h i _ DT];simp[Instr.indexAt,run_underlying ht,asIntOf,hj,hi.sizeOf,Addr.add_mid]) k
theorem Rg.KQ {t e:TypeId} {κ:IntKind} {j:Int} {b len bytes:Nat} {zv:Value} (ht:P.underlying t=some (.array len e)) (hi:TI P e zv 1 bytes) (hx:ev L x=some (.pointer (some ⟨b,0,none⟩))) (DT:ev L i=some (.int κ j)) (hd:Nat.blt d n=true) (hj:0≤j∧j<len)
  (k:Rg P r n ops rest ((d,.pointer (some ⟨b,j.toNat,none⟩))::L) ds w K):
  Rg P r n ops ({dst:=some d,op:= .indexAddr t x i,type:=ty,pos,after:=af,guard:=none}::rest) L ds w K:=
 .op (fun _ h=>by cases h) rfl rfl hd _ w (fun ρ h=>by
  simp only[execOp,h x _ hx,h i _ DT];simp[Instr.indexAt,run_underlying ht,asIntOf,hj,hi.sizeOf,Addr.add_mid,Instr.sureAddr]) k
theorem Rg.mk0 {t e:TypeId} {len:Nat} {bytes:Nat} {zv:Value} (M:aA) (ht:P.underlying t=some (.slice e)) (hi:TI P e zv 1 bytes) (hz:zv.cells= #[zv]) (hx:ev L x=some (.int .i64 len)) (hy:ev L y=some (.int .i64 len)) (hd:Nat.blt d n=true) (hb:bytes*len≤140737488355328) (hl:len≤9223372036854775807)
  (k:∀b w',w.heap.size≤b→b<w'.heap.size→w'.heap[b]? =some (.cells (List.replicate len zv).toArray e (0,0))→Step M w (ins M b) w' aC→Rg P r n ops rest ((d,.slice (some ⟨b,0,none⟩) len len)::L) ds w' K):
  Rg P r n ops ({dst:=some d,op:= .makeSlice t x y,type:=ty,pos,after:=af,guard:=none}::rest) L ds w K:=by
 obtain⟨inf,i1,i2,i3,i4⟩:=hi.get
 have hm:madeCells zv.cells (len*1)=(List.replicate len zv).toArray:=by
  apply Array.ext
  ·simp[madeCells]
  ·intro j h1 h2;simp[madeCells,hz,Nat.mod_one]
 refine .op (fun _ h=>by cases h) rfl rfl hd (.slice (some ⟨w.heap.size,0,none⟩) len len) (w.alloc (.cells (List.replicate len zv).toArray e)) (fun ρ hρ=>?_) (k w.heap.size _ (bj _) (by simp) (cq w _) ((cU M w _).own (bj _) (by simp)))
 have Zb:(inf.bytes:Int)*(len:Int)≤281474976710656:=by
  rw[i4];have h1:((bytes*len:Nat):Int)≤281474976710656:=by omega
  rwa [Int.natCast_mul]at h1
 have hr:=run_make (P:=P) w t e inf zv ht i1 i2 .i64 .i64 (len:Int) (len:Int) (by omega) (Int.le_refl _) Zb (by omega);simp only[az,i3,hm]at hr;simp only[execOp,hρ x _ hx,hρ y _ hy];simp[cQ,hr]
theorem Rg.OI {xt:TypeId} {p:Nat} (hx:ev L x=some (.int .u64 p)) (hd:Nat.blt d n=true) (hp:p<2^64) (k:Rg P r n ops rest ((d,.int .u64 ((2^64-1-p:Nat):Int))::L) ds w K):
  Rg P r n ops ({dst:=some d,op:= .unOp .xor xt x,type:=ty,pos,after:=af,guard:=none}::rest) L ds w K:=by
 refine .op (fun _ h=>by cases h) rfl rfl hd _ w (fun ρ h=>?_) k
 have e:(2^64-1:Nat)^^^p=2^64-1-p:=by
  apply Nat.eq_of_testBit_eq;intro j;have h1:=Nat.testBit_two_pow_sub_succ (x:=p) (n:=64) hp j;rw[show 2^64-1-p=2^64-(p+1)from by omega,h1,Nat.testBit_xor,Nat.testBit_two_pow_sub_one];by_cases hj:j<64
  ·simp[hj]
  ·have:p.testBit j=false:=Nat.testBit_lt_two_pow (mP hp (kE (by decide) (by omega)));simp[hj,this]
 simp only[execOp,h x _ hx]
 have hb:(BitVec.ofInt IntKind.u64.bits IntKind.u64.max^^^BitVec.ofInt IntKind.u64.bits (p:Int)).toNat=2^64-1-p:=by
  rw[BitVec.toNat_xor,mQ,mQ];have h1:(IntKind.u64.max%((2^IntKind.u64.bits:Nat):Int)).toNat=2^64-1:=by decide
  have h2:((p:Int)%((2^IntKind.u64.bits:Nat):Int)).toNat=p:=by
   change((p:Int)%((18446744073709551616:Nat):Int)).toNat=p;omega
  rw[h1,h2,e]
 have hw:IntKind.u64.wrap ((2^64-1-p:Nat):Int)=((2^64-1-p:Nat):Int):=IntWalk.u64_in _ (by omega)
 have hu:(Op.unary .xor (.int .u64 (p:Int))).run P w= .ok (.int .u64 ((2^64-1-p:Nat):Int)) w:=by
  change(Op.intBits .xor .u64 IntKind.u64.max (p:Int)).run P w=_;unfold Op.intBits;simp only[];rw[hb,hw];simp
 simp[hu]
theorem Rg.TN {xt:TypeId} {κ:IntKind} {p:Int} (hx:ev L x=some (.int κ p)) (hd:Nat.blt d n=true) (k:Rg P r n ops rest ((d,.int κ (κ.wrap (0-p)))::L) ds w K):
  Rg P r n ops ({dst:=some d,op:= .unOp .neg xt x,type:=ty,pos,after:=af,guard:=none}::rest) L ds w K:=by
 refine .op (fun _ h=>by cases h) rfl rfl hd _ w (fun ρ h=>?_) k;simp only[execOp,h x _ hx];simp[Op.unary,Op.intArith]
theorem wJ (p q:Nat) (hp:p<2^64) (hq:q<2^64):IntKind.u64.wrap (BitVec.ofInt IntKind.u64.bits (p:Int)&&&BitVec.ofInt IntKind.u64.bits (q:Int)).toNat=((p&&&q:Nat):Int):=by
 have h:∀z:Nat,z<2^64→((z:Int)%((2^IntKind.u64.bits:Nat):Int)).toNat=z:=fun z hz=>by
  change((z:Int)%((18446744073709551616:Nat):Int)).toNat=z;omega
 rw[BitVec.toNat_and,mQ,mQ,h p hp,h q hq];exact IntWalk.u64_in _ (by have:=Nat.and_le_left (n:=p) (m:=q);omega)
theorem OJ (p q:Nat) (hp:p<2^64) (hq:q<2^64):IntKind.u64.wrap (BitVec.ofInt IntKind.u64.bits (p:Int)^^^BitVec.ofInt IntKind.u64.bits (q:Int)).toNat=((p^^^q:Nat):Int):=by
 have h:∀z:Nat,z<2^64→((z:Int)%((2^IntKind.u64.bits:Nat):Int)).toNat=z:=fun z hz=>by
  change((z:Int)%((18446744073709551616:Nat):Int)).toNat=z;omega
 rw[BitVec.toNat_xor,mQ,mQ,h p hp,h q hq];exact IntWalk.u64_in _ (by have:=Nat.xor_lt_two_pow hp hq;omega)
end
def bit (ws:List Nat) (i:Nat):Bool:=(ws.getD (i/64) 0).testBit (i%64)
def Words (ws:List Nat):Prop:=∀x∈ws,x<2^64
theorem Words.get {ws:List Nat} (h:Words ws) (k:Nat):ws.getD k 0<2^64:=by
 rw[bH]
 cases hx:ws[k]? with
 |none=>simp
 |some x=>exact h x (aM hx)
theorem sr (ws:List Nat) (k j x:Nat) (hk:k<ws.length):(ws.set k x).getD j 0=if j=k then x else ws.getD j 0:=by
 rw[bH,bH,dK];by_cases h:k=j
 ·subst h;simp[hk]
 ·rw[if_neg h,if_neg (fun e=>h e.symm)]
theorem Words.set {ws:List Nat} (h:Words ws) {k x:Nat} (hx:x<2^64):Words (ws.set k x):=fun y hy=>by
 rcases List.mem_or_eq_of_mem_set hy with h1|h1
 ·exact h y h1
 ·rw[h1];exact hx
theorem Eo {ws:List Nat} (hw:Words ws) {i:Nat} (hi:i/64<ws.length) (j:Nat):bit (ws.set (i/64) (ws.getD (i/64) 0^^^2^(i%64))) j=(bit ws j ^^ decide (j=i)):=by
 unfold bit;rw[sr _ _ _ _ hi];by_cases h:j/64=i/64
 ·rw[if_pos h,Nat.testBit_xor,Nat.testBit_two_pow,h];congr 1;exact decide_eq_decide.2 (by omega)
 ·rw[if_neg h,decide_eq_false (by intro e;rw[e]at h;exact h rfl),Bool.xor_false]
theorem ym (x i t:Nat):(x/2^i).testBit t=x.testBit (t+i):=Nat.testBit_div_two_pow x t
theorem Ep:∀x:Nat,0<x→∃k m,x=2^k*(2*m+1):=by
 intro x
 induction x using Nat.strongRecOn with
 |_ x ih=>
  intro h;by_cases h2:x%2=1
  ·exact⟨0,x/2,by omega⟩
  ·obtain⟨k,m,e⟩:=ih (x/2) (by omega) (by omega);refine⟨k+1,m,?_⟩;rw[Nat.pow_succ,Nat.mul_right_comm,←e];omega
theorem Es (m:Nat):(2*m+1).testBit 0=true:=by rw[Nat.testBit_zero];exact decide_eq_true (by omega)
theorem HL (m:Nat):(2*m).testBit 0=false:=by rw[Nat.testBit_zero];exact decide_eq_false (by omega)
theorem wK {k m:Nat}:(2^k*(2*m+1)).testBit k=true∧∀t,t<k→(2^k*(2*m+1)).testBit t=false:=by
 have h:=fun j=>Nat.testBit_two_pow_mul_add (2*m+1) (b:=0) (i:=k) (Nat.two_pow_pos k) j
 simp only[Nat.add_zero]at h;constructor
 ·rw[h k,if_neg (by omega),Nat.sub_self,Es]
 ·intro t ht;rw[h t,if_pos ht,Nat.zero_testBit]
theorem HM {k m:Nat} (hx:2^k*(2*m+1)<2^64):(2^k*(2*m+1))&&&(2^64-2^k*(2*m+1))=2^k:=by
 have hp:=Nat.two_pow_pos k;have vZ:0<2^k*(2*m+1):=Nat.mul_pos hp (by omega)
 have e1:2^64-2^k*(2*m+1)=2^64-((2^k*(2*m)+(2^k-1))+1):=by
  have:2^k*(2*m+1)=2^k*(2*m)+2^k:=by rw[Nat.mul_add,Nat.mul_one]
  omega
 apply Nat.eq_of_testBit_eq;intro j
 have e2:2^k*(2*m)+(2^k-1)<2^64:=by
  have:2^k*(2*m+1)=2^k*(2*m)+2^k:=by rw[Nat.mul_add,Nat.mul_one]
  omega
 rw[Nat.testBit_and,e1,Nat.testBit_two_pow_sub_succ e2,Nat.testBit_two_pow_mul_add _ (by omega),Nat.testBit_two_pow_sub_one,Nat.testBit_two_pow];have h:=Nat.testBit_two_pow_mul_add (2*m+1) (b:=0) (i:=k) hp j;simp only[Nat.add_zero]at h;rw[h];rcases gU j k with h1|h1|h1
 ·rw[if_pos h1,Nat.zero_testBit,fO,decide_eq_false (by omega)]
 ·subst h1
  have hj:j<64:=by
   rcases cK j 64 with h2|h2
   ·exact h2
   ·have:=kE (n:=2) (by decide) h2;have:2^j*1≤2^j*(2*m+1):=Nat.mul_le_mul_left _ (by omega);omega
  rw[if_neg (ic _),if_neg (ic _),Nat.sub_self,Es,HL,decide_eq_true hj,decide_eq_true rfl];rfl
 ·rw[if_neg (by omega),if_neg (by omega),decide_eq_false (show¬k=j by omega)];obtain⟨t,rfl⟩:∃t,j=k+(t+1):=⟨j-k-1,by omega⟩;rw[show k+(t+1)-k=t+1 from by omega,Nat.testBit_succ,Nat.testBit_succ,show(2*m+1)/2=m from by omega,show 2*m/2=m from by omega]
  cases m.testBit t<;>simp
def Et:List Nat:=[0,1,56,2,57,49,28,3,61,58,42,50,38,29,17,4,62,47,59,36,45,43,51,22,53,39,33,30,24,18,12,5,63,55,48,27,60,41,37,16,46,35,44,21,52,32,23,11,54,26,40,15,34,20,31,10,25,14,19,9,13,8,7,6]
theorem KR:∀k,k<64→(2^k*285870213051353865)%2^64/2^58<64∧Et[(2^k*285870213051353865)%2^64/2^58]? =some k:=by decide+kernel
theorem wL (n:Nat):IntKind.u64.wrap (n:Int)=((n%2^64:Nat):Int):=by
 have:IntKind.u64.wrap (n:Int)=(n:Int)%18446744073709551616:=by simp[IntKind.wrap,IntKind.bits,IntKind.signed]
 rw[this];omega
theorem KS (x t:Nat) (ht:t<64):((x:Int)).fdiv (2^min ((t:Int)).toNat IntKind.u64.bits)=((x/2^t:Nat):Int):=by
 rw[az,show min t IntKind.u64.bits=t from Nat.min_eq_left (show t≤64 by omega),show(2:Int)^t=((2^t:Nat):Int)from by simp,Int.fdiv_eq_ediv_of_nonneg _ (Int.natCast_nonneg _)];rfl
theorem OK (t:Nat) (ht:t<64):IntKind.u64.wrap (1*2^min ((t:Int)).toNat IntKind.u64.bits)=((2^t:Nat):Int):=by
 have h:(2:Nat)^t<2^64:=Nat.pow_lt_pow_right (by decide) ht;rw[az,show min t IntKind.u64.bits=t from Nat.min_eq_left (show t≤64 by omega),Int.one_mul,show(2:Int)^t=((2^t:Nat):Int)from by simp,wL,kU h]
def lQ (ws:List Nat):Array Value:=(ws.map fun(x:Nat)=>Value.int .u64 (x:Int)).toArray
theorem fv {ws:List Nat} {k:Nat} (hk:k<ws.length):(lQ ws)[k]? =some (.int .u64 (ws.getD k 0:Nat)):=by
 simp[lQ,bH,aL hk]
theorem lR (ws:List Nat) (k x:Nat):(lQ ws).setIfInBounds k (.int .u64 (x:Int))=lQ (ws.set k x):=by
 simp[lQ,List.map_set]
structure ek (Ts Tw:TypeId) (n:Nat) (ws:List Nat) (M:aA) (w:World) (bs bw:Nat):Prop where
 ms:M bs
 mw:M bw
 ne:bs≠bw
 s:w.heap[bs]? =some (.cells #[.int .i64 n,.slice (some ⟨bw,0,none⟩) ws.length ws.length] Ts (0,0))
 w:w.heap[bw]? =some (.cells (lQ ws) Tw (0,0))
 len:ws.length=(n+63)/64
 ok:Words ws
 nn:n≤1099511627776
theorem ek.step {Ts Tw:TypeId} {n:Nat} {ws:List Nat} {M M' N:aA} {w w':World} {bs bw:Nat} (h:ek Ts Tw n ws M w bs bw) (s:Step M w M' w' N) (h1: ¬N bs) (h2: ¬N bw):ek Ts Tw n ws M' w' bs bw:=
 ⟨(s.mem bs (ak h.s)).2 h.ms,(s.mem bw (ak h.w)).2 h.mw,h.ne,s.bF h.s h1,s.bF h.w h2,h.len,h.ok,h.nn⟩
theorem ek.put {Ts Tw:TypeId} {n:Nat} {ws qL:List Nat} {M:aA} {w w':World} {bs bw:Nat} (h:ek Ts Tw n ws M w bs bw) (s:Step M w M w' (fun b=>b=bw)) (hl:qL.length=ws.length) (hw:w'.heap[bw]? =some (.cells (lQ qL) Tw (0,0))) (ok:Words qL):ek Ts Tw n qL M w' bs bw:=
 ⟨h.ms,h.mw,h.ne,by rw[hl];exact s.bF h.s h.ne,hw,by rw[hl];exact h.len,ok,h.nn⟩
def Jv (n:Nat) (ws:List Nat) (i:Int):Bool:=decide (0≤i∧i<n)&&bit ws i.toNat
section
variable {P:Program} {r:Option Nat} {n:Nat} {L:Sl} {ds:List Deferred} {w:World} {K:Kt} {ops:Array Oper} {rest:List Oper} {d:Nat} {x:Operand} {ty:TypeId} {pos:String} {af:Array Edge}
theorem Rg.qc {t e:TypeId} {a:Option Addr} {l c:Nat} (ht:P.underlying t=some (.slice e)) (hx:ev L x=some (.slice a l c)) (hd:Nat.blt d n=true)
  (k:Rg P r n ops rest ((d,.int .i64 (l:Int))::L) ds w K):
  Rg P r n ops ({dst:=some d,op:= .call {callee:= .builtin .len,args:= #[x],argTypes:= #[t]},type:=ty,pos,after:=af,guard:=none}::rest) L ds w K:=by
 refine .op (fun _ h=>by cases h) rfl rfl hd _ w (fun ρ h=>?_) k;simp[execOp,resolve,invoke,builtin,h x _ hx,Builtin.len_,run_underlying ht,goInt]
end
theorem wM (ws:List Nat) {k x:Nat} (hk:k<ws.length) (j:Nat):bit (ws.set k x) j=if j/64=k then x.testBit (j%64)else bit ws j:=by
 unfold bit;rw[sr _ _ _ _ hk]
 split<;>rfl
theorem Eu {x t:Nat} (hx:x<2^64) (ht:t<64):(2^64-1-x).testBit t= !x.testBit t:=by
 rw[show 2^64-1-x=2^64-(x+1)from by omega,Nat.testBit_two_pow_sub_succ hx,decide_eq_true ht,dw]
theorem HN {ws:List Nat} {j:Nat} (h:ws.length≤j/64):bit ws j=false:=by
 unfold bit;rw[bH,dI h];simp
theorem yn (k j:Nat):bit (List.replicate k 0) j=false:=by
 unfold bit;rw[bH,List.getElem?_replicate]
 split<;>simp
def Jw (ws:List Nat) (p:Nat) (r:Int):Prop:=(∃j:Nat,r=j∧p≤j∧bit ws j=true∧∀t,p≤t→t<j→bit ws t=false)∨(r= -1∧∀t,p≤t→bit ws t=false)
theorem su {ws:List Nat} {i t:Nat} (h:i%64+t<64):bit ws (i+t)=(ws.getD (i/64) 0/2^(i%64)).testBit t:=by
 unfold bit;rw[ym,show(i+t)/64=i/64 from by omega,show(i+t)%64=t+i%64 from by omega]
theorem yo {x i:Nat} (hx:x<2^64) (hi:i<64) {k m:Nat} (h:x/2^i=2^k*(2*m+1)):i+k<64:=by
 rcases cK (i+k) 64 with h1|h1
 ·exact h1
 ·exfalso;have h2:(x/2^i).testBit k=true:=by rw[h];exact wK.1
  rw[ym]at h2;have:=Nat.testBit_lt_two_pow (mP hx (kE (n:=2) (by decide) (show 64≤k+i by omega)));rw[this]at h2;cases h2
end Go.K
namespace Go.K
abbrev Tw:=Int×Int×Int
end Go.K
namespace Go.K
open Go.RowKit (Below)
open Go.Maps (Keyed)
open Go.ChangeMaps (putKey delKey notKey)
abbrev DU:=DataW Unit
structure KT (P:Program) (k:TypeId) (R:Value→Option (DU×List MemPlace)) (M:aA) (w:World) (b:Nat) (m:List (Lit×DU)):Prop where
 mut_:M b
 own:w.ownsMap P k R b m.length (.map m)
section
variable {P:Program} {r:Option Nat} {n:Nat} {L:Sl} {ds:List Deferred} {w:World} {K:Kt} {ops:Array Oper} {rest:List Oper} {d:Nat} {x y z:Operand} {ty:TypeId} {pos:String} {af:Array Edge}
variable {kt:TypeId} {R:Value→Option (DU×List MemPlace)} {M:aA} {b:Nat} {m:List (Lit×DU)}
theorem Step.sw {w w':World} (h:Below w.heap.size w w') (M:aA):Step M w M w' aC:=
 ⟨fun h0 b hb=>mP (h0 b hb) h.size,h.os,h.tape,h.output,h.size,fun _ _=>Iff.rfl,fun b hb _=>h.block b hb,fun _ h=>h.elim⟩
end
end Go.K
namespace Go.K
def allM:aA:=fun _=>True
theorem Step.all {M M' N:aA} {w w':World} (s:Step M w M' w' N):Step allM w allM w' N:=⟨fun h=>absurd (h w.heap.size trivial) (ic _),s.os,s.tape,s.output,s.size,fun _ _=>Iff.rfl,s.same,fun _ _=>trivial⟩
theorem Step.toAny {M M':aA} {w w':World} (s:Step M w M' w' aC) (M1:aA):Step M1 w M1 w' aC:=s.any M1
theorem eo.int {κ:IntKind} {M M':aA} {w w':World}:∀{xs:List Int} {C:List Value},eo (RT.int κ) M w xs C→eo (RT.int κ) M' w' xs C
 |[],_,h=>h
 |x::xs,C,h=>by
  obtain⟨vs,r,h1,h2,h3⟩:=h;exact⟨vs,r,h1,h2,eo.int h3⟩
theorem Own.HO {κ:IntKind} {e:TypeId} {M:aA} {w:World} {base:Nat} {v:Value} {xs:List Int} (h:Own (RT.int κ) e M w base v xs) {M':aA} (hm:∀b,v.ownBlock=some b→M' b):Own (RT.int κ) e M' w base v xs:=by
 obtain⟨⟨C,h1,h2⟩,_⟩:=h;exact⟨⟨C,h1,eo.int h2⟩,hm⟩
theorem Own.OL {κ:IntKind} {e:TypeId} {N:aA} {w w':World} {base:Nat} {v:Value} {xs:List Int} (h:Own (RT.int κ) e allM w base v xs) (s:Step allM w allM w' N) (hn:∀b,v.ownBlock=some b→¬N b):Own (RT.int κ) e allM w' base v xs:=by
 obtain⟨⟨C,h1,h2⟩,_⟩:=h;refine⟨⟨C,⟨h1.1,?_⟩,eo.int h2⟩,fun _ _=>trivial⟩;rcases h1.2 with h3|⟨g,cap,cur,h3,h4,h5,h6,h7,h8⟩
 ·exact .inl h3
 ·exact .inr ⟨g,cap,cur,h3,h4,by rw[s.same g (ak h5) (hn g (by rw[h3];rfl))];exact h5,h6,h7,h8⟩
def nL (v:Value):aA:=fun b=>v.ownBlock=some b
theorem Own.lone {κ:IntKind} {e:TypeId} {M:aA} {w:World} {base:Nat} {v:Value} {xs:List Int} (h:Own (RT.int κ) e M w base v xs):Own (RT.int κ) e (nL v) w base v xs:=h.HO fun _ h=>h
end Go.K
namespace Go.K
def yp (at':Nat→Nat) (cont:Nat→Bool):Nat×Nat:=
 if at' 0<0x80 then(at' 0,1)
 else if at' 0/32==6&&cont 1 then
  if(at' 0%32)*64+at' 1%64≥0x80 then((at' 0%32)*64+at' 1%64,2)else(65533,1)
 else if at' 0/16==14&&cont 1&&cont 2 then
  if(at' 0%16)*4096+(at' 1%64)*64+at' 2%64≥0x800&&Utf8.valid ((at' 0%16)*4096+(at' 1%64)*64+at' 2%64:Nat)then((at' 0%16)*4096+(at' 1%64)*64+at' 2%64,3)else(65533,1)
 else if at' 0/8==30&&cont 1&&cont 2&&cont 3 then
  if(at' 0%8)*262144+(at' 1%64)*4096+(at' 2%64)*64+at' 3%64≥0x10000&&Utf8.valid ((at' 0%8)*262144+(at' 1%64)*4096+(at' 2%64)*64+at' 3%64:Nat)then((at' 0%8)*262144+(at' 1%64)*4096+(at' 2%64)*64+at' 3%64,4)else(65533,1)
 else(65533,1)
theorem CL (s:ByteArray) (i:Nat):Utf8.decode s i=yp (fun k=>(s.get! (i+k)).toNat) (fun k=>decide (i+k<s.size)&&(s.get! (i+k)).toNat/64==2):=rfl
def gY (l:List UInt8) (k:Nat):Nat:=(l.getD k 0).toNat
def gR (l:List UInt8) (k:Nat):Bool:=decide (k<l.length)&&gY l k/64==2
def dec (l:List UInt8):Nat×Nat:=yp (gY l) (gR l)
theorem CM (l:List UInt8) (j:Nat):(⟨l.toArray⟩:ByteArray).get! j=l.getD j 0:=by
 show l.toArray[j]! =_;rw[bH,getElem!_def];simp only[jN]
 cases l[j]? <;>rfl
theorem Ak (l:List UInt8) (pos:Nat):Utf8.decode ⟨l.toArray⟩ pos=dec (l.drop pos):=by
 rw[CL,dec]
 have h1:(fun k=>((⟨l.toArray⟩:ByteArray).get! (pos+k)).toNat)=gY (l.drop pos):=by
  funext k;rw[CM,gY,bH,bH,List.getElem?_drop]
 have h2:(fun k=>decide (pos+k<(⟨l.toArray⟩:ByteArray).size)&&((⟨l.toArray⟩:ByteArray).get! (pos+k)).toNat/64==2)=gR (l.drop pos):=by
  funext k;have:=congrFun h1 k;rw[this,gR,cN];congr 1;have hs:(⟨l.toArray⟩:ByteArray).size=l.length:=by simp[ByteArray.size]
  rw[hs];exact decide_eq_decide.2 (by omega)
 rw[h1,h2]
theorem sx {l:List UInt8} {k:Nat} (h:gR l k=true):k<l.length:=by
 simp only[gR,bC,decide_eq_true_eq]at h;exact h.1
theorem jK {l:List UInt8} (hl:l≠[]):1≤(dec l).2∧(dec l).2≤l.length:=by
 have h0:0<l.length:=lB.2 hl;unfold dec yp
 split
 ·exact⟨bj _,h0⟩
 ·split
  ·rename_i h
   simp only[bC]at h;have:=sx h.2
   split<;>(simp only;omega)
  ·split
   ·rename_i h
    simp only[bC]at h;have:=sx h.2
    split<;>(simp only;omega)
   ·split
    ·rename_i h
     simp only[bC]at h;have:=sx h.2
     split<;>(simp only;omega)
    ·exact⟨bj _,h0⟩
theorem lS (l:List UInt8) (k:Nat):gY l k<256:=by unfold gY;exact UInt8.toNat_lt _
theorem qd (l:List UInt8):(dec l).1≤1114111:=by
 unfold dec yp
 split
 ·simp only;omega
 ·split
  ·have:=lS l 0
   split<;>(simp only;omega)
  ·split
   ·have:=lS l 0
    split<;>(simp only;omega)
   ·split
    ·split
     ·rename_i h
      simp only[bC,Utf8.valid,Bool.or_eq_true,decide_eq_true_eq]at h;simp only;omega
     ·simp only;omega
    ·simp only;omega
def dW (l:List UInt8):List Int:=match l with
 |[]=>[]
 |c::r=>((dec (c::r)).1:Int)::dW ((c::r).drop (dec (c::r)).2)
termination_by l.length
decreasing_by
 have:=(jK (l:=c::r) (by simp)).1;simp only[cN,cr];omega
theorem nF:dW []=[]:=by unfold dW;rfl
theorem lT {l:List UInt8} (h:l≠[]):dW l=((dec l).1:Int)::dW (l.drop (dec l).2):=by
 cases l with
 |nil=>exact absurd rfl h
 |cons c r=>rw[dW]
theorem fZ (l:List UInt8):(dW l).length≤l.length:=by
 induction hn:l.length using Nat.strongRecOn generalizing l with
 |_ n ih=>
  by_cases h:l=[]
  ·subst h;rw[nF];simp
  ·rw[lT h,cr];have hw:=jK h;have:=ih _ (by rw[cN];omega) (l.drop (dec l).2) rfl;rw[cN]at this;omega
section
variable {P:Program} {r:Option Nat} {n:Nat} {L:Sl} {ds:List Deferred} {w:World} {K:Kt} {ops:Array Oper} {rest:List Oper} {d:Nat} {x:Operand} {ty:TypeId} {pos:String} {af:Array Edge}
theorem Rg.Ev {t:TypeId} {l:List UInt8} (M:aA) (ht:P.underlying t=some .string) (hx:ev L x=some (.string ⟨l.toArray⟩)) (hd:Nat.blt d n=true)
  (k:∀b w',w.heap.size≤b→b<w'.heap.size→w'.heap[b]? =some (.stringIter ⟨l.toArray⟩ 0)→Step M w (ins M b) w' aC→Rg P r n ops rest ((d,.pointer (some ⟨b,0,none⟩))::L) ds w' K):
  Rg P r n ops ({dst:=some d,op:= .range t x,type:=ty,pos,after:=af,guard:=none}::rest) L ds w K:=by
 refine .op (fun _ h=>by cases h) rfl rfl hd (.pointer (some ⟨w.heap.size,0,none⟩)) (w.alloc (.stringIter ⟨l.toArray⟩ 0)) (fun ρ hρ=>?_) (k w.heap.size _ (bj _) (by simp) (cq w _) ((cU M w _).own (bj _) (by simp)));simp only[execOp,hρ x _ hx];simp[Instr.range,cQ,run_underlying ht,newObj,Sem.run]
theorem gv (M:aA) {b:Nat} {o:Obj} (hm:M b):Step M w M {w with heap:=w.heap.setIfInBounds b o} (fun k=>k=b):=
 ⟨fun h b hb=>by simpa using h b hb,rfl,rfl,rfl,by simp,fun _ _=>Iff.rfl,fun k _ hn=>by simp[cJ,Ne.symm hn],fun k hk=>by subst hk;exact hm⟩
theorem mZ {b p:Nat} {s:ByteArray} (hb:w.heap[b]? =some (.stringIter s p)):(getObj b).run P w= .ok (.stringIter s p) w:=by simp[getObj,Sem.run,hb]
theorem Rg.HP {l:List UInt8} {b p:Nat} {M:aA} (hx:ev L x=some (.pointer (some ⟨b,0,none⟩))) (hb:w.heap[b]? =some (.stringIter ⟨l.toArray⟩ p)) (hm:M b) (hd:Nat.blt d n=true)
  (k1:p<l.length→∀w',w'.heap[b]? =some (.stringIter ⟨l.toArray⟩ (p+(dec (l.drop p)).2))→Step M w M w' (fun k=>k=b)→Rg P r n ops rest ((d,.tuple #[.bool true,.int .i64 p,.int .i32 ((dec (l.drop p)).1:Nat)])::L) ds w' K)
  (k2: ¬p<l.length→Rg P r n ops rest ((d,.tuple #[.bool false])::L) ds w K):
  Rg P r n ops ({dst:=some d,op:= .next x true,type:=ty,pos,after:=af,guard:=none}::rest) L ds w K:=by
 have hs:(⟨l.toArray⟩:ByteArray).size=l.length:=by simp[ByteArray.size]
 have dB:=ak hb;by_cases h:p<l.length
 ·have key:=k1 h {w with heap:=w.heap.setIfInBounds b (.stringIter ⟨l.toArray⟩ (p+(dec (l.drop p)).2))} (by simp[cJ,dB]) (gv M hm);refine .op (fun _ h=>by cases h) rfl rfl hd _ _ (fun ρ hρ=>?_) key;simp only[execOp,hρ x _ hx,Instr.next,cQ,mZ hb,du];rw[if_pos (by rw[hs];exact h)];simp[Ak,setObj,Sem.run,goInt,hb]
 ·refine .op (fun _ h=>by cases h) rfl rfl hd _ w (fun ρ hρ=>?_) (k2 h);simp only[execOp,hρ x _ hx,Instr.next,cQ,mZ hb,du];rw[if_neg (by rw[hs];exact h)];simp
theorem Rg.BQ {t:TypeId} {i:Operand} {l:List UInt8} {κ:IntKind} {j:Int} {c:UInt8} (ht:P.underlying t=some .string) (hx:ev L x=some (.string ⟨l.toArray⟩)) (hi:ev L i=some (.int κ j)) (hd:Nat.blt d n=true) (hj:0≤j) (hc:l[j.toNat]? =some c)
  (k:Rg P r n ops rest ((d,.int .u8 (c.toNat:Int))::L) ds w K):
  Rg P r n ops ({dst:=some d,op:= .index t x i,type:=ty,pos,after:=af,guard:=none}::rest) L ds w K:=by
 have dB:=(av.1 hc).1;have hs:(⟨l.toArray⟩:ByteArray).size=l.length:=by simp[ByteArray.size]
 have hg:(⟨l.toArray⟩:ByteArray)[j.toNat]? =some c:=by
  rw[getElem?_pos _ _ (by rw[hs];exact dB)];congr 1;have:=(av.1 hc).2;rw[←this];rfl
 refine .op (fun _ h=>by cases h) rfl rfl hd _ w (fun ρ hρ=>?_) k;simp only[execOp,hρ x _ hx,hρ i _ hi,Instr.index,cQ,asIntOf,Sem.run_pure,du,run_underlying ht];simp[hj,hg]
theorem nX (l:List UInt8) (a b:Nat):(⟨l.toArray⟩:ByteArray).extract a b=⟨((l.take b).drop a).toArray⟩:=by
 have:((⟨l.toArray⟩:ByteArray).extract a b).data=((l.take b).drop a).toArray:=by
  rw[ByteArray.data_extract];apply Array.toList_inj.1;rw[Array.toList_extract,List.extract_eq_take_drop,List.drop_take]
 exact congrArg ByteArray.mk this
theorem Rg.HQ {t:TypeId} {i:Operand} {l:List UInt8} {κ:IntKind} {j:Int} (ht:P.underlying t=some .string) (hx:ev L x=some (.string ⟨l.toArray⟩)) (hi:ev L i=some (.int κ j)) (hd:Nat.blt d n=true) (hj:0≤j∧j≤l.length)
  (k:Rg P r n ops rest ((d,.string ⟨(l.drop j.toNat).toArray⟩)::L) ds w K):
  Rg P r n ops ({dst:=some d,op:= .slice t x (some i) none none,type:=ty,pos,after:=af,guard:=none}::rest) L ds w K:=by
 have hs:(⟨l.toArray⟩:ByteArray).size=l.length:=by simp[ByteArray.size]
 refine .op (fun _ h=>by cases h) rfl rfl hd _ w (fun ρ hρ=>?_) k;simp only[execOp,hρ x _ hx,fq,mK,hρ i _ hi];rw[cQ,run_sliceAt_string _ _ _ _ _ _ ht,run_slice_string_l _ _ _ ht _ _ hj.1 (by rw[hs];exact hj.2),nX,hs,List.take_length];simp
theorem Rg.Jy {t:TypeId} {i:Operand} {l:List UInt8} {κ:IntKind} {j:Int} (ht:P.underlying t=some .string) (hx:ev L x=some (.string ⟨l.toArray⟩)) (hi:ev L i=some (.int κ j)) (hd:Nat.blt d n=true) (hj:0≤j∧j≤l.length)
  (k:Rg P r n ops rest ((d,.string ⟨(l.take j.toNat).toArray⟩)::L) ds w K):
  Rg P r n ops ({dst:=some d,op:= .slice t x none (some i) none,type:=ty,pos,after:=af,guard:=none}::rest) L ds w K:=by
 have hs:(⟨l.toArray⟩:ByteArray).size=l.length:=by simp[ByteArray.size]
 refine .op (fun _ h=>by cases h) rfl rfl hd _ w (fun ρ hρ=>?_) k;simp only[execOp,hρ x _ hx,fq,mK,hρ i _ hi];rw[cQ,run_sliceAt_string _ _ _ _ _ _ ht,run_slice_string_h _ _ _ ht _ _ hj.1 (by rw[hs];exact hj.2),nX,List.drop_zero];simp
end
theorem Own.dD {α:Type} {A:RT α} {e:TypeId} {M:aA} {w:World} {base b p:Nat} {s:ByteArray} {v:Value} {xs:List α} (h:Own A e M w base v xs) (hb:w.heap[b]? =some (.stringIter s p)):v.ownBlock≠some b:=fun hv=>by
 obtain⟨⟨C,h1,_⟩,_⟩:=h;rcases h1.2 with⟨h2,_⟩|⟨g,cap,cur,h2,_,h3,_⟩
 ·rw[h2]at hv;cases hv
 ·rw[h2]at hv;cases hv;rw[h3]at hb;cases hb
theorem Own.ir {α β:Type} {A:RT α} {B:RT β} {e e':TypeId} {M M':aA} {w:World} {base BJ:Nat} {v u:Value} {xs:List α} {ys:List β} (h:Own A e M w base v xs) (h':Own B e' M' w BJ u ys) (ht:e≠e') {b:Nat} (hb:v.ownBlock=some b):u.ownBlock≠some b:=fun hu=>by
 obtain⟨⟨C,h1,_⟩,_⟩:=h;obtain⟨⟨C',Hh,_⟩,_⟩:=h';rcases h1.2 with⟨h2,_⟩|⟨g,cap,cur,h2,_,h3,_⟩
 ·rw[h2]at hb;cases hb
 ·rcases Hh.2 with⟨uc,_⟩|⟨g',Of,Og,uc,_,Zc,_⟩
  ·rw[uc]at hu;cases hu
  ·rw[h2]at hb;rw[uc]at hu;cases hb;cases hu;rw[h3]at Zc;cases Zc;exact ht rfl
theorem Own.eL {α:Type} {A:RT α} {e t:TypeId} {M:aA} {w:World} {base b:Nat} {v:Value} {xs:List α} {cs:Array Value} {fr:Nat×Nat} (h:Own A e M w base v xs) (hb:w.heap[b]? =some (.cells cs t fr)) (ht:t≠e):v.ownBlock≠some b:=fun hv=>by
 obtain⟨⟨C,h1,_⟩,_⟩:=h;rcases h1.2 with⟨h2,_⟩|⟨g,cap,cur,h2,_,h3,_⟩
 ·rw[h2]at hv;cases hv
 ·rw[h2]at hv;cases hv;rw[h3]at hb;cases hb;exact ht rfl
end Go.K
namespace Go.K
open Go.Proofs
theorem I3:TI Tryz.prog 3 (.int .i64 0) 1 8:=by unfold TI;kernel_rfl
theorem I5:TI Tryz.prog 5 (.int .u8 0) 1 1:=by unfold TI;kernel_rfl
theorem I9:TI Tryz.prog 9 (.string ⟨#[]⟩) 1 16:=by unfold TI;kernel_rfl
theorem Sg:TI Tryz.prog 26 (.int .i64 0) 1 8:=by unfold TI;kernel_rfl
theorem nM:TI Tryz.prog 32 (.slice none 0 0) 1 24:=by unfold TI;kernel_rfl
theorem qe:TI Tryz.prog 39 (.slice none 0 0) 1 24:=by unfold TI;kernel_rfl
theorem kL:TI Tryz.prog 41 (.agg #[(.int .i64 0),(.slice none 0 0)]) 2 32:=by unfold TI;kernel_rfl
theorem yq:TI Tryz.prog 43 (.agg #[(.int .i64 0),(.slice none 0 0),(.int .i64 0)]) 3 40:=by unfold TI;kernel_rfl
theorem qM:TI Tryz.prog 47 (.agg #[(.string ⟨#[]⟩),(.string ⟨#[]⟩)]) 2 32:=by unfold TI;kernel_rfl
theorem Hj:TI Tryz.prog 55 (.slice none 0 0) 1 24:=by unfold TI;kernel_rfl
theorem I98:TI Tryz.prog 98 (.slice none 0 0) 1 24:=by unfold TI;kernel_rfl
theorem gZ:TI Tryz.prog 127 (.agg #[(.string ⟨#[]⟩),(.string ⟨#[]⟩)]) 2 32:=by unfold TI;kernel_rfl
theorem oE:TI Tryz.prog 129 (.pointer none) 1 8:=by unfold TI;kernel_rfl
theorem yr:TI Tryz.prog 147 (.slice none 0 0) 1 24:=by unfold TI;kernel_rfl
theorem gw:TI Tryz.prog 153 (.agg #[(.int .i64 0),(.slice none 0 0)]) 2 32:=by unfold TI;kernel_rfl
theorem Al:TI Tryz.prog 191 (.slice none 0 0) 1 24:=by unfold TI;kernel_rfl
theorem TO:TI Tryz.prog 193 (.agg #[(.slice none 0 0),(.slice none 0 0),(.int .i64 0)]) 3 56:=by unfold TI;kernel_rfl
theorem ui:TI Tryz.prog 195 (.agg #[(.int .i64 0),(.int .i64 0),(.int .i64 0),(.int .i64 0)]) 4 32:=by unfold TI;kernel_rfl
theorem CN:TI Tryz.prog 256 (.agg #[(.string ⟨#[]⟩),(.int .i64 0)]) 2 24:=by unfold TI;kernel_rfl
theorem TP:TI Tryz.prog 309 (.agg #[(.pointer none),(.slice none 0 0)]) 2 32:=by unfold TI;kernel_rfl
theorem OM:placesOf Tryz.prog 41=[(0,1),(1,1)].map some:=by kernel_rfl
theorem Sh:placesOf Tryz.prog 43=[(0,2),(2,1)].map some:=by kernel_rfl
theorem Zd:placesOf Tryz.prog 47=[(0,1),(1,1)].map some:=by kernel_rfl
theorem HR:placesOf Tryz.prog 153=[(0,1),(1,1)].map some:=by kernel_rfl
theorem TQ:placesOf Tryz.prog 193=[(0,1),(1,1),(2,1)].map some:=by kernel_rfl
theorem TR:placesOf Tryz.prog 195=[(0,1),(1,1),(2,1),(3,1)].map some:=by kernel_rfl
theorem ON:placesOf Tryz.prog 256=[(0,1),(1,1)].map some:=by kernel_rfl
theorem mixed:Tryz.prog.follows .mixedOrders=true:=by kernel_rfl
theorem E65:Enters Tryz.prog 65:=enters Tryz.func65 rfl (by decide)
theorem Si:Enters Tryz.prog 74:=enters Tryz.func74 rfl (by decide)
theorem OO:Enters Tryz.prog 116:=enters Tryz.func116 rfl (by decide)
theorem OP:Enters Tryz.prog 117:=enters Tryz.func117 rfl (by decide)
theorem TS:Enters Tryz.prog 150:=enters Tryz.func150 rfl (by decide)
theorem TT:Enters Tryz.prog 151:=enters Tryz.func151 rfl (by decide)
theorem TU:Enters Tryz.prog 152:=enters Tryz.func152 rfl (by decide)
theorem TV:Enters Tryz.prog 153:=enters Tryz.func153 rfl (by decide)
theorem OQ:Enters Tryz.prog 154:=enters Tryz.func154 rfl (by decide)
theorem TW:Enters Tryz.prog 158:=enters Tryz.func158 rfl (by decide)
theorem TX:Enters Tryz.prog 159:=enters Tryz.func159 rfl (by decide)
theorem TY:Enters Tryz.prog 160:=enters Tryz.func160 rfl (by decide)
theorem TZ:Enters Tryz.prog 161:=enters Tryz.func161 rfl (by decide)
theorem T0:Enters Tryz.prog 167:=enters Tryz.func167 rfl (by decide)
theorem T1:Enters Tryz.prog 171:=enters Tryz.func171 rfl (by decide)
theorem T2:Enters Tryz.prog 172:=enters Tryz.func172 rfl (by decide)
theorem KU:Enters Tryz.prog 173:=enters Tryz.func173 rfl (by decide)
theorem T3:Enters Tryz.prog 174:=enters Tryz.func174 rfl (by decide)
theorem T4:Enters Tryz.prog 191:=enters Tryz.func191 rfl (by decide)
theorem OR:Enters Tryz.prog 192:=enters Tryz.func192 rfl (by decide)
theorem T5:Enters Tryz.prog 193:=enters Tryz.func193 rfl (by decide)
theorem T6:Enters Tryz.prog 194:=enters Tryz.func194 rfl (by decide)
theorem T7:Enters Tryz.prog 195:=enters Tryz.func195 rfl (by decide)
theorem T8:Enters Tryz.prog 196:=enters Tryz.func196 rfl (by decide)
theorem T9:Enters Tryz.prog 197:=enters Tryz.func197 rfl (by decide)
theorem Ua:Enters Tryz.prog 199:=enters Tryz.func199 rfl (by decide)
theorem Ub:Enters Tryz.prog 212:=enters Tryz.func212 rfl (by decide)
theorem Uc:Enters Tryz.prog 213:=enters Tryz.func213 rfl (by decide)
theorem OS:Enters Tryz.prog 214:=enters Tryz.func214 rfl (by decide)
theorem Ud:Enters Tryz.prog 215:=enters Tryz.func215 rfl (by decide)
theorem Ue:Enters Tryz.prog 216:=enters Tryz.func216 rfl (by decide)
theorem OT:Enters Tryz.prog 217:=enters Tryz.func217 rfl (by decide)
theorem Uf:Enters Tryz.prog 218:=enters Tryz.func218 rfl (by decide)
theorem OU:Enters Tryz.prog 219:=enters Tryz.func219 rfl (by decide)
theorem OV:Enters Tryz.prog 220:=enters Tryz.func220 rfl (by decide)
theorem Ug:Enters Tryz.prog 221:=enters Tryz.func221 rfl (by decide)
theorem Uh:Enters Tryz.prog 222:=enters Tryz.func222 rfl (by decide)
theorem OW:Enters Tryz.prog 223:=enters Tryz.func223 rfl (by decide)
theorem Ui:Enters Tryz.prog 224:=enters Tryz.func224 rfl (by decide)
theorem Uj:Enters Tryz.prog 225:=enters Tryz.func225 rfl (by decide)
theorem Uk:Enters Tryz.prog 233:=enters Tryz.func233 rfl (by decide)
theorem OX:Enters Tryz.prog 250:=enters Tryz.func250 rfl (by decide)
theorem Ul:Enters Tryz.prog 251:=enters Tryz.func251 rfl (by decide)
theorem Um:Enters Tryz.prog 252:=enters Tryz.func252 rfl (by decide)
theorem Un:Enters Tryz.prog 253:=enters Tryz.func253 rfl (by decide)
theorem Uo:Enters Tryz.prog 254:=enters Tryz.func254 rfl (by decide)
theorem Up:Enters Tryz.prog 255:=enters Tryz.func255 rfl (by decide)
theorem Uq:Enters Tryz.prog 256:=enters Tryz.func256 rfl (by decide)
theorem OY:Enters Tryz.prog 274:=enters Tryz.func274 rfl (by decide)
theorem Ur:Enters Tryz.prog 277:=enters Tryz.func277 rfl (by decide)
end Go.K
namespace Go.K
open Go.Proofs
set_option maxRecDepth 10000
def ez (c:Int):Bool:=decide ((97≤c∧c≤122)∨(65≤c∧c≤90)∨(192≤c∧c≤591∧c≠215∧c≠247))
def lU (c:Int):Bool:=decide (48≤c∧c≤57)
def eC (c:Int):Int:=if(65≤c∧c≤90)∨(192≤c∧c≤222∧c≠215)then c+32 else c
theorem yt (c:Int) (w0:World):
  Spec Tryz.prog 221 #[.int .i64 c] w0 (fun v w=>v= .bool (ez c)∧w=w0):=by
 refine aX (args:=[_]) (fn:=Tryz.f221) Tryz.func221 rfl (n:=33) Tryz.ntmps221 (aj (ah (ai rfl rfl (ad (aj (ah (ae rfl rfl (dr rfl rfl rfl (ae rfl rfl ?_)))))))));refine aG (g:=5) rfl (fun fF=>?_) (fun fF=>?_)
 ·refine al rfl rfl (ae rfl rfl (al rfl rfl (eP rfl rfl rfl (aQ rfl rfl rfl (ae rfl rfl ?_)))));refine aG (g:=9) rfl (fun wN=>?_) (fun wN=>?_)
  ·refine ao rfl rfl rfl rfl (ao rfl rfl rfl rfl (ao rfl rfl rfl rfl (ca rfl rfl rfl (ca rfl rfl rfl (ao rfl rfl rfl rfl (aQ rfl rfl rfl (ae rfl rfl (ao rfl rfl rfl rfl (ao rfl rfl rfl rfl (ao rfl rfl rfl rfl (ca rfl rfl rfl ?_)))))))))));refine ca rfl rfl rfl (ao rfl rfl rfl rfl (ao rfl rfl rfl rfl (ca rfl rfl rfl (ca rfl rfl rfl (ao rfl rfl rfl rfl (ao rfl rfl rfl rfl (ca rfl rfl rfl (ca rfl rfl rfl (ao rfl rfl rfl rfl (aQ rfl rfl rfl (ai rfl rfl ?_)))))))))));refine ad (aJ ?_);exact aO rfl rfl ⟨by simp only[ez];first|rfl|(congr 1;first|(exact(decide_eq_true (by omega)).symm)|(exact(decide_eq_false (by omega)).symm)|(exact decide_eq_decide.2 (by omega))),rfl⟩
  ·refine al rfl rfl (ae rfl rfl (al rfl rfl (dr rfl rfl rfl (al rfl rfl (ae rfl rfl ?_)))));refine aG (g:=12) rfl (fun oF=>?_) (fun oF=>?_)
   ·refine al rfl rfl (ae rfl rfl (al rfl rfl (eP rfl rfl rfl (al rfl rfl (aQ rfl rfl rfl (ax rfl rfl rfl (ae rfl rfl ?_)))))));refine aG (g:=17) rfl (fun sy=>?_) (fun sy=>?_)
    ·refine ao rfl rfl rfl rfl (ao rfl rfl rfl rfl (ao rfl rfl rfl rfl (ca rfl rfl rfl (ca rfl rfl rfl (ao rfl rfl rfl rfl (ao rfl rfl rfl rfl (ca rfl rfl rfl (ca rfl rfl rfl (ao rfl rfl rfl rfl (ao rfl rfl rfl rfl (ca rfl rfl rfl ?_)))))))))));refine ca rfl rfl rfl (ao rfl rfl rfl rfl (aQ rfl rfl rfl (ai rfl rfl (ad (aJ ?_)))));exact aO rfl rfl ⟨by simp only[ez];first|rfl|(congr 1;first|(exact(decide_eq_true (by omega)).symm)|(exact(decide_eq_false (by omega)).symm)|(exact decide_eq_decide.2 (by omega))),rfl⟩
    ·refine al rfl rfl (ae rfl rfl (al rfl rfl (dr rfl rfl rfl (al rfl rfl (ae rfl rfl ?_)))));refine aG (g:=20) rfl (fun j5=>?_) (fun j5=>?_)
     ·refine al rfl rfl (ae rfl rfl (al rfl rfl (eP rfl rfl rfl (al rfl rfl (aQ rfl rfl rfl (al rfl rfl (ae rfl rfl ?_)))))));refine aG (g:=24) rfl (fun sz=>?_) (fun sz=>?_)
      ·refine al rfl rfl (ae rfl rfl (al rfl rfl (eV rfl rfl rfl (al rfl rfl (aQ rfl rfl rfl (al rfl rfl (ae rfl rfl ?_)))))));refine aG (g:=28) rfl (fun sC=>?_) (fun sC=>?_)
       ·refine al rfl rfl (ae rfl rfl (al rfl rfl (eV rfl rfl rfl (al rfl rfl (aQ rfl rfl rfl (ax rfl rfl rfl (ai rfl rfl (ad (aJ ?_)))))))));exact aO rfl rfl ⟨by simp only[ez];first|rfl|(congr 1;first|(exact(decide_eq_true (by omega)).symm)|(exact(decide_eq_false (by omega)).symm)|(exact decide_eq_decide.2 (by omega))),rfl⟩
       ·refine ao rfl rfl rfl rfl (ao rfl rfl rfl rfl (al rfl rfl (ax rfl rfl rfl (ax rfl rfl rfl (ai rfl rfl (ad (aJ ?_)))))));exact aO rfl rfl ⟨by simp only[ez];first|rfl|(congr 1;first|(exact(decide_eq_true (by omega)).symm)|(exact(decide_eq_false (by omega)).symm)|(exact decide_eq_decide.2 (by omega))),rfl⟩
      ·refine ao rfl rfl rfl rfl (ao rfl rfl rfl rfl (al rfl rfl (ax rfl rfl rfl (al rfl rfl (ae rfl rfl (ao rfl rfl rfl rfl (ao rfl rfl rfl rfl (al rfl rfl (ax rfl rfl rfl (ax rfl rfl rfl (ai rfl rfl ?_)))))))))));refine ad (aJ ?_);exact aO rfl rfl ⟨by simp only[ez];first|rfl|(congr 1;first|(exact(decide_eq_true (by omega)).symm)|(exact(decide_eq_false (by omega)).symm)|(exact decide_eq_decide.2 (by omega))),rfl⟩
     ·refine ao rfl rfl rfl rfl (ao rfl rfl rfl rfl (al rfl rfl (ax rfl rfl rfl (al rfl rfl (ae rfl rfl (ao rfl rfl rfl rfl (ao rfl rfl rfl rfl (al rfl rfl (ax rfl rfl rfl (al rfl rfl (ae rfl rfl ?_)))))))))));refine ao rfl rfl rfl rfl (ao rfl rfl rfl rfl (al rfl rfl (ax rfl rfl rfl (ax rfl rfl rfl (ai rfl rfl (ad (aJ ?_)))))));exact aO rfl rfl ⟨by simp only[ez];first|rfl|(congr 1;first|(exact(decide_eq_true (by omega)).symm)|(exact(decide_eq_false (by omega)).symm)|(exact decide_eq_decide.2 (by omega))),rfl⟩
   ·refine ao rfl rfl rfl rfl (ao rfl rfl rfl rfl (al rfl rfl (ax rfl rfl rfl (ax rfl rfl rfl (ae rfl rfl (al rfl rfl (ae rfl rfl (al rfl rfl (dr rfl rfl rfl (al rfl rfl (ae rfl rfl ?_)))))))))));refine aG (g:=20) rfl (fun j5=>?_) (fun j5=>?_)
    ·refine al rfl rfl (ae rfl rfl (al rfl rfl (eP rfl rfl rfl (al rfl rfl (aQ rfl rfl rfl (al rfl rfl (ae rfl rfl ?_)))))));refine aG (g:=24) rfl (fun sz=>?_) (fun sz=>?_)
     ·refine al rfl rfl (ae rfl rfl (al rfl rfl (eV rfl rfl rfl (al rfl rfl (aQ rfl rfl rfl (al rfl rfl (ae rfl rfl ?_)))))));refine aG (g:=28) rfl (fun sC=>?_) (fun sC=>?_)
      ·refine al rfl rfl (ae rfl rfl (al rfl rfl (eV rfl rfl rfl (al rfl rfl (aQ rfl rfl rfl (ax rfl rfl rfl (ai rfl rfl (ad (aJ ?_)))))))));exact aO rfl rfl ⟨by simp only[ez];first|rfl|(congr 1;first|(exact(decide_eq_true (by omega)).symm)|(exact(decide_eq_false (by omega)).symm)|(exact decide_eq_decide.2 (by omega))),rfl⟩
      ·refine ao rfl rfl rfl rfl (ao rfl rfl rfl rfl (al rfl rfl (ax rfl rfl rfl (ax rfl rfl rfl (ai rfl rfl (ad (aJ ?_)))))));exact aO rfl rfl ⟨by simp only[ez];first|rfl|(congr 1;first|(exact(decide_eq_true (by omega)).symm)|(exact(decide_eq_false (by omega)).symm)|(exact decide_eq_decide.2 (by omega))),rfl⟩
     ·refine ao rfl rfl rfl rfl (ao rfl rfl rfl rfl (al rfl rfl (ax rfl rfl rfl (al rfl rfl (ae rfl rfl (ao rfl rfl rfl rfl (ao rfl rfl rfl rfl (al rfl rfl (ax rfl rfl rfl (ax rfl rfl rfl (ai rfl rfl ?_)))))))))));refine ad (aJ ?_);exact aO rfl rfl ⟨by simp only[ez];first|rfl|(congr 1;first|(exact(decide_eq_true (by omega)).symm)|(exact(decide_eq_false (by omega)).symm)|(exact decide_eq_decide.2 (by omega))),rfl⟩
    ·refine ao rfl rfl rfl rfl (ao rfl rfl rfl rfl (al rfl rfl (ax rfl rfl rfl (al rfl rfl (ae rfl rfl (ao rfl rfl rfl rfl (ao rfl rfl rfl rfl (al rfl rfl (ax rfl rfl rfl (al rfl rfl (ae rfl rfl ?_)))))))))));refine ao rfl rfl rfl rfl (ao rfl rfl rfl rfl (al rfl rfl (ax rfl rfl rfl (ax rfl rfl rfl (ai rfl rfl (ad (aJ ?_)))))));exact aO rfl rfl ⟨by simp only[ez];first|rfl|(congr 1;first|(exact(decide_eq_true (by omega)).symm)|(exact(decide_eq_false (by omega)).symm)|(exact decide_eq_decide.2 (by omega))),rfl⟩
 ·refine ao rfl rfl rfl rfl (ao rfl rfl rfl rfl (ax rfl rfl rfl (ae rfl rfl (al rfl rfl (ae rfl rfl (al rfl rfl (dr rfl rfl rfl (al rfl rfl (ae rfl rfl ?_)))))))));refine aG (g:=12) rfl (fun oF=>?_) (fun oF=>?_)
  ·refine al rfl rfl (ae rfl rfl (al rfl rfl (eP rfl rfl rfl (al rfl rfl (aQ rfl rfl rfl (ax rfl rfl rfl (ae rfl rfl ?_)))))));refine aG (g:=17) rfl (fun sy=>?_) (fun sy=>?_)
   ·refine ao rfl rfl rfl rfl (ao rfl rfl rfl rfl (ao rfl rfl rfl rfl (ca rfl rfl rfl (ca rfl rfl rfl (ao rfl rfl rfl rfl (ao rfl rfl rfl rfl (ca rfl rfl rfl (ca rfl rfl rfl (ao rfl rfl rfl rfl (ao rfl rfl rfl rfl (ca rfl rfl rfl ?_)))))))))));refine ca rfl rfl rfl (ao rfl rfl rfl rfl (aQ rfl rfl rfl (ai rfl rfl (ad (aJ ?_)))));exact aO rfl rfl ⟨by simp only[ez];first|rfl|(congr 1;first|(exact(decide_eq_true (by omega)).symm)|(exact(decide_eq_false (by omega)).symm)|(exact decide_eq_decide.2 (by omega))),rfl⟩
   ·refine al rfl rfl (ae rfl rfl (al rfl rfl (dr rfl rfl rfl (al rfl rfl (ae rfl rfl ?_)))));refine aG (g:=20) rfl (fun j5=>?_) (fun j5=>?_)
    ·refine al rfl rfl (ae rfl rfl (al rfl rfl (eP rfl rfl rfl (al rfl rfl (aQ rfl rfl rfl (al rfl rfl (ae rfl rfl ?_)))))));refine aG (g:=24) rfl (fun sz=>?_) (fun sz=>?_)
     ·refine al rfl rfl (ae rfl rfl (al rfl rfl (eV rfl rfl rfl (al rfl rfl (aQ rfl rfl rfl (al rfl rfl (ae rfl rfl ?_)))))));refine aG (g:=28) rfl (fun sC=>?_) (fun sC=>?_)
      ·refine al rfl rfl (ae rfl rfl (al rfl rfl (eV rfl rfl rfl (al rfl rfl (aQ rfl rfl rfl (ax rfl rfl rfl (ai rfl rfl (ad (aJ ?_)))))))));exact aO rfl rfl ⟨by simp only[ez];first|rfl|(congr 1;first|(exact(decide_eq_true (by omega)).symm)|(exact(decide_eq_false (by omega)).symm)|(exact decide_eq_decide.2 (by omega))),rfl⟩
      ·refine ao rfl rfl rfl rfl (ao rfl rfl rfl rfl (al rfl rfl (ax rfl rfl rfl (ax rfl rfl rfl (ai rfl rfl (ad (aJ ?_)))))));exact aO rfl rfl ⟨by simp only[ez];first|rfl|(congr 1;first|(exact(decide_eq_true (by omega)).symm)|(exact(decide_eq_false (by omega)).symm)|(exact decide_eq_decide.2 (by omega))),rfl⟩
     ·refine ao rfl rfl rfl rfl (ao rfl rfl rfl rfl (al rfl rfl (ax rfl rfl rfl (al rfl rfl (ae rfl rfl (ao rfl rfl rfl rfl (ao rfl rfl rfl rfl (al rfl rfl (ax rfl rfl rfl (ax rfl rfl rfl (ai rfl rfl ?_)))))))))));refine ad (aJ ?_);exact aO rfl rfl ⟨by simp only[ez];first|rfl|(congr 1;first|(exact(decide_eq_true (by omega)).symm)|(exact(decide_eq_false (by omega)).symm)|(exact decide_eq_decide.2 (by omega))),rfl⟩
    ·refine ao rfl rfl rfl rfl (ao rfl rfl rfl rfl (al rfl rfl (ax rfl rfl rfl (al rfl rfl (ae rfl rfl (ao rfl rfl rfl rfl (ao rfl rfl rfl rfl (al rfl rfl (ax rfl rfl rfl (al rfl rfl (ae rfl rfl ?_)))))))))));refine ao rfl rfl rfl rfl (ao rfl rfl rfl rfl (al rfl rfl (ax rfl rfl rfl (ax rfl rfl rfl (ai rfl rfl (ad (aJ ?_)))))));exact aO rfl rfl ⟨by simp only[ez];first|rfl|(congr 1;first|(exact(decide_eq_true (by omega)).symm)|(exact(decide_eq_false (by omega)).symm)|(exact decide_eq_decide.2 (by omega))),rfl⟩
  ·refine ao rfl rfl rfl rfl (ao rfl rfl rfl rfl (al rfl rfl (ax rfl rfl rfl (ax rfl rfl rfl (ae rfl rfl (al rfl rfl (ae rfl rfl (al rfl rfl (dr rfl rfl rfl (al rfl rfl (ae rfl rfl ?_)))))))))));refine aG (g:=20) rfl (fun j5=>?_) (fun j5=>?_)
   ·refine al rfl rfl (ae rfl rfl (al rfl rfl (eP rfl rfl rfl (al rfl rfl (aQ rfl rfl rfl (al rfl rfl (ae rfl rfl ?_)))))));refine aG (g:=24) rfl (fun sz=>?_) (fun sz=>?_)
    ·refine al rfl rfl (ae rfl rfl (al rfl rfl (eV rfl rfl rfl (al rfl rfl (aQ rfl rfl rfl (al rfl rfl (ae rfl rfl ?_)))))));refine aG (g:=28) rfl (fun sC=>?_) (fun sC=>?_)
     ·refine al rfl rfl (ae rfl rfl (al rfl rfl (eV rfl rfl rfl (al rfl rfl (aQ rfl rfl rfl (ax rfl rfl rfl (ai rfl rfl (ad (aJ ?_)))))))));exact aO rfl rfl ⟨by simp only[ez];first|rfl|(congr 1;first|(exact(decide_eq_true (by omega)).symm)|(exact(decide_eq_false (by omega)).symm)|(exact decide_eq_decide.2 (by omega))),rfl⟩
     ·refine ao rfl rfl rfl rfl (ao rfl rfl rfl rfl (al rfl rfl (ax rfl rfl rfl (ax rfl rfl rfl (ai rfl rfl (ad (aJ ?_)))))));exact aO rfl rfl ⟨by simp only[ez];first|rfl|(congr 1;first|(exact(decide_eq_true (by omega)).symm)|(exact(decide_eq_false (by omega)).symm)|(exact decide_eq_decide.2 (by omega))),rfl⟩
    ·refine ao rfl rfl rfl rfl (ao rfl rfl rfl rfl (al rfl rfl (ax rfl rfl rfl (al rfl rfl (ae rfl rfl (ao rfl rfl rfl rfl (ao rfl rfl rfl rfl (al rfl rfl (ax rfl rfl rfl (ax rfl rfl rfl (ai rfl rfl ?_)))))))))));refine ad (aJ ?_);exact aO rfl rfl ⟨by simp only[ez];first|rfl|(congr 1;first|(exact(decide_eq_true (by omega)).symm)|(exact(decide_eq_false (by omega)).symm)|(exact decide_eq_decide.2 (by omega))),rfl⟩
   ·refine ao rfl rfl rfl rfl (ao rfl rfl rfl rfl (al rfl rfl (ax rfl rfl rfl (al rfl rfl (ae rfl rfl (ao rfl rfl rfl rfl (ao rfl rfl rfl rfl (al rfl rfl (ax rfl rfl rfl (al rfl rfl (ae rfl rfl ?_)))))))))));refine ao rfl rfl rfl rfl (ao rfl rfl rfl rfl (al rfl rfl (ax rfl rfl rfl (ax rfl rfl rfl (ai rfl rfl (ad (aJ ?_)))))));exact aO rfl rfl ⟨by simp only[ez];first|rfl|(congr 1;first|(exact(decide_eq_true (by omega)).symm)|(exact(decide_eq_false (by omega)).symm)|(exact decide_eq_decide.2 (by omega))),rfl⟩
theorem Am (c:Int) (w0:World):
  Spec Tryz.prog 222 #[.int .i64 c] w0 (fun v w=>v= .bool (lU c)∧w=w0):=by
 refine aX (args:=[_]) (fn:=Tryz.f222) Tryz.func222 rfl (n:=9) Tryz.ntmps222 (aj (ah (ai rfl rfl (ad (aj (ah (ae rfl rfl (dr rfl rfl rfl (ae rfl rfl ?_)))))))));refine aG (g:=5) rfl (fun fF=>?_) (fun fF=>?_)
 ·refine al rfl rfl (ae rfl rfl (al rfl rfl (eP rfl rfl rfl (aQ rfl rfl rfl (ai rfl rfl (ad (aJ ?_)))))));exact aO rfl rfl ⟨by simp only[lU];first|rfl|(congr 1;first|(exact(decide_eq_true (by omega)).symm)|(exact(decide_eq_false (by omega)).symm)|(exact decide_eq_decide.2 (by omega))),rfl⟩
 ·refine ao rfl rfl rfl rfl (ao rfl rfl rfl rfl (ax rfl rfl rfl (ai rfl rfl (ad (aJ ?_)))));exact aO rfl rfl ⟨by simp only[lU];first|rfl|(congr 1;first|(exact(decide_eq_true (by omega)).symm)|(exact(decide_eq_false (by omega)).symm)|(exact decide_eq_decide.2 (by omega))),rfl⟩
theorem vh (c:Int) (w0:World) (hc:0≤c∧c≤1114111):
  Spec Tryz.prog 223 #[.int .i64 c] w0 (fun v w=>v= .int .i64 (eC c)∧w=w0):=by
 refine aX (args:=[_]) (fn:=Tryz.f223) Tryz.func223 rfl (n:=24) Tryz.ntmps223 (aj (ah (ai rfl rfl (ad (aj (aj (ah (ae rfl rfl (dr rfl rfl rfl (ae rfl rfl ?_))))))))));refine aG (g:=5) rfl (fun fF=>?_) (fun fF=>?_)
 ·refine al rfl rfl (ae rfl rfl (al rfl rfl (eP rfl rfl rfl (aQ rfl rfl rfl (ae rfl rfl ?_)))));refine aG (g:=9) rfl (fun wN=>?_) (fun wN=>?_)
  ·refine ao rfl rfl rfl rfl (ao rfl rfl rfl rfl (ao rfl rfl rfl rfl (ca rfl rfl rfl (ca rfl rfl rfl (ao rfl rfl rfl rfl (ao rfl rfl rfl rfl (ca rfl rfl rfl (ca rfl rfl rfl (ao rfl rfl rfl rfl (aQ rfl rfl rfl (ad ?_)))))))))));refine lC rfl (aj (ah (ae rfl rfl (bA rfl rfl rfl (by omega) (ai rfl rfl (ad (aJ ?_)))))));exact aO rfl rfl ⟨by rw[eC,if_pos (by omega)],rfl⟩
  ·refine al rfl rfl (ae rfl rfl (al rfl rfl (dr rfl rfl rfl (al rfl rfl (ae rfl rfl ?_)))));refine aG (g:=12) rfl (fun oF=>?_) (fun oF=>?_)
   ·refine al rfl rfl (ae rfl rfl (al rfl rfl (eP rfl rfl rfl (al rfl rfl (aQ rfl rfl rfl (al rfl rfl (ae rfl rfl ?_)))))));refine aG (g:=16) rfl (fun Ew=>?_) (fun Ew=>?_)
    ·refine al rfl rfl (ae rfl rfl (al rfl rfl (eV rfl rfl rfl (al rfl rfl (aQ rfl rfl rfl (ax rfl rfl rfl (ad ?_)))))));refine bI rfl (fun c1=>?_) (fun c1=>?_)
     ·refine aj (ah (ae rfl rfl (bA rfl rfl rfl (by omega) (ai rfl rfl (ad (aJ ?_))))));exact aO rfl rfl ⟨by rw[eC,if_pos (by omega)],rfl⟩
     ·refine aU (aj (ah (ae rfl rfl (ai rfl rfl (ad (aJ ?_))))));exact aO rfl rfl ⟨by rw[eC,if_neg (by omega)],rfl⟩
    ·refine ao rfl rfl rfl rfl (ao rfl rfl rfl rfl (al rfl rfl (ax rfl rfl rfl (ax rfl rfl rfl (ad (hU rfl (aU (aj (ah (ae rfl rfl (ai rfl rfl ?_)))))))))));refine ad (aJ ?_);exact aO rfl rfl ⟨by rw[eC,if_neg (by omega)],rfl⟩
   ·refine ao rfl rfl rfl rfl (ao rfl rfl rfl rfl (al rfl rfl (ax rfl rfl rfl (al rfl rfl (ae rfl rfl (ao rfl rfl rfl rfl (ao rfl rfl rfl rfl (al rfl rfl (ax rfl rfl rfl (ax rfl rfl rfl (ad ?_)))))))))));refine hU rfl (aU (aj (ah (ae rfl rfl (ai rfl rfl (ad (aJ ?_)))))));exact aO rfl rfl ⟨by rw[eC,if_neg (by omega)],rfl⟩
 ·refine ao rfl rfl rfl rfl (ao rfl rfl rfl rfl (ax rfl rfl rfl (ae rfl rfl (al rfl rfl (ae rfl rfl (al rfl rfl (dr rfl rfl rfl (al rfl rfl (ae rfl rfl ?_)))))))));refine aG (g:=12) rfl (fun oF=>?_) (fun oF=>?_)
  ·refine al rfl rfl (ae rfl rfl (al rfl rfl (eP rfl rfl rfl (al rfl rfl (aQ rfl rfl rfl (al rfl rfl (ae rfl rfl ?_)))))));refine aG (g:=16) rfl (fun Ew=>?_) (fun Ew=>?_)
   ·refine al rfl rfl (ae rfl rfl (al rfl rfl (eV rfl rfl rfl (al rfl rfl (aQ rfl rfl rfl (ax rfl rfl rfl (ad ?_)))))));refine bI rfl (fun c1=>?_) (fun c1=>?_)
    ·refine aj (ah (ae rfl rfl (bA rfl rfl rfl (by omega) (ai rfl rfl (ad (aJ ?_))))));exact aO rfl rfl ⟨by rw[eC,if_pos (by omega)],rfl⟩
    ·refine aU (aj (ah (ae rfl rfl (ai rfl rfl (ad (aJ ?_))))));exact aO rfl rfl ⟨by rw[eC,if_neg (by omega)],rfl⟩
   ·refine ao rfl rfl rfl rfl (ao rfl rfl rfl rfl (al rfl rfl (ax rfl rfl rfl (ax rfl rfl rfl (ad (hU rfl (aU (aj (ah (ae rfl rfl (ai rfl rfl ?_)))))))))));refine ad (aJ ?_);exact aO rfl rfl ⟨by rw[eC,if_neg (by omega)],rfl⟩
  ·refine ao rfl rfl rfl rfl (ao rfl rfl rfl rfl (al rfl rfl (ax rfl rfl rfl (al rfl rfl (ae rfl rfl (ao rfl rfl rfl rfl (ao rfl rfl rfl rfl (al rfl rfl (ax rfl rfl rfl (ax rfl rfl rfl (ad ?_)))))))))));refine hU rfl (aU (aj (ah (ae rfl rfl (ai rfl rfl (ad (aJ ?_)))))));exact aO rfl rfl ⟨by rw[eC,if_neg (by omega)],rfl⟩
end Go.K
namespace Go.Proofs
open Go.Shelf
def Tryz.qN:Go.Shelf.Ren:=⟨fun|169=>256|n=>n,fun|70=>307|9=>9|0=>0|72=>309|37=>147|127=>331|3=>3|5=>5|n=>n,fun|n=>n⟩
theorem Tryz.HS:Go.Proofs.Lays.n169 Tryz.prog Tryz.qN:={
 mixed:=by kernel_rfl
 f169:=Tryz.func256.trans (congrArg some (by kernel_rfl))
 t0:=gH
 a0:=rE
 z0:=oh
 v0:=iH
 t3:=ar
 a3:=rF
 z3:=om
 v3:=iI
 t9:=aD
 a9:=rG
 z9:=ot
 v9:=iJ
 t37:=bm
 a37:=Tryz.isAgg147
 z37:=Tryz.sizeOf147
 v37:=Tryz.zeroValue147
 t70:=Tryz.underlying307
 a70:=Tryz.isAgg307
 z70:=Tryz.sizeOf307
 v70:=Tryz.zeroValue307
 t72:=Tryz.underlying309
 a72:=Tryz.isAgg309
 z72:=Tryz.sizeOf309
 v72:=Tryz.zeroValue309
 t127:=Tryz.underlying331
 a127:=Tryz.isAgg331
 z127:=Tryz.sizeOf331
 v127:=Tryz.zeroValue331}
def Tryz.yu:Go.Shelf.Ren:=⟨fun|119=>277|n=>n,fun|21=>21|4=>4|n=>n,fun|n=>n⟩
theorem Tryz.HT:Go.Proofs.Lays.n119 Tryz.prog Tryz.yu:={
 mixed:=by kernel_rfl
 f119:=Tryz.func277.trans (congrArg some (by kernel_rfl))
 t4:=jy
 a4:=Tryz.isAgg4
 z4:=Tryz.sizeOf4
 v4:=oS
 t21:=Tryz.underlying21
 a21:=Tryz.isAgg21
 z21:=Tryz.sizeOf21
 v21:=Tryz.zeroValue21}
def Tryz.yv:Go.Shelf.Ren:=⟨fun|106=>159|213=>198|265=>235|n=>n,fun|9=>9|3=>3|n=>n,fun|n=>n⟩
theorem Tryz.HU:Go.Proofs.Lays.n106 Tryz.prog Tryz.yv:={
 mixed:=by kernel_rfl
 f106:=Tryz.func159.trans (congrArg some (by kernel_rfl))
 f213:=Tryz.func198.trans (congrArg some (by kernel_rfl))
 f265:=Tryz.func235.trans (congrArg some (by kernel_rfl))
 t3:=ar
 a3:=rF
 z3:=om
 v3:=iI
 t9:=aD
 a9:=rG
 z9:=ot
 v9:=iJ}
theorem Tryz.o5:Builder.Extra Tryz.prog Tryz.qN:={
 sizeBuilder:=by kernel_rfl
 liesBuilder:=by kernel_rfl
 t5:=b4
 a5:=Tryz.isAgg5
 z5:=Tryz.sizeOf5
 v5:=Tryz.zeroValue5
 infoByte:=by kernel_rfl
 cellsByte:=by kernel_rfl
 sizeByte:=by kernel_rfl
 neB5:=by decide}
def Tryz.qO:Go.Shelf.Ren:=⟨fun|168=>254|240=>275|242=>276|276=>285|278=>286|n=>n,fun|0=>0|3=>3|4=>4|5=>5|9=>9|20=>20|21=>21|37=>147|46=>183|51=>273|70=>307|72=>309|75=>311|80=>315|164=>336|n=>n,fun|n=>n⟩
theorem Tryz.HV:Go.Proofs.Lays.n168 Tryz.prog Tryz.qO:={
 mixed:=by kernel_rfl
 f168:=Tryz.func254.trans (congrArg some (by kernel_rfl))
 f240:=Tryz.func275.trans (congrArg some (by kernel_rfl))
 f242:=Tryz.func276.trans (congrArg some (by kernel_rfl))
 f276:=Tryz.func285.trans (congrArg some (by kernel_rfl))
 f278:=Tryz.func286.trans (congrArg some (by kernel_rfl))
 t0:=gH
 a0:=rE
 z0:=oh
 v0:=iH
 t3:=ar
 a3:=rF
 z3:=om
 v3:=iI
 t4:=jy
 a4:=Tryz.isAgg4
 z4:=Tryz.sizeOf4
 v4:=oS
 t5:=b4
 a5:=Tryz.isAgg5
 z5:=Tryz.sizeOf5
 v5:=Tryz.zeroValue5
 t9:=aD
 a9:=rG
 z9:=ot
 v9:=iJ
 t20:=Tryz.underlying20
 a20:=Tryz.isAgg20
 z20:=Tryz.sizeOf20
 v20:=Tryz.zeroValue20
 t21:=Tryz.underlying21
 a21:=Tryz.isAgg21
 z21:=Tryz.sizeOf21
 v21:=Tryz.zeroValue21
 t37:=bm
 a37:=Tryz.isAgg147
 z37:=Tryz.sizeOf147
 v37:=Tryz.zeroValue147
 t46:=Tryz.underlying183
 a46:=Tryz.isAgg183
 z46:=Tryz.sizeOf183
 v46:=Tryz.zeroValue183
 t51:=Tryz.underlying273
 a51:=Tryz.isAgg273
 z51:=Tryz.sizeOf273
 v51:=Tryz.zeroValue273
 t70:=Tryz.underlying307
 a70:=Tryz.isAgg307
 z70:=Tryz.sizeOf307
 v70:=Tryz.zeroValue307
 t72:=Tryz.underlying309
 a72:=Tryz.isAgg309
 z72:=Tryz.sizeOf309
 v72:=Tryz.zeroValue309
 t75:=Tryz.underlying311
 a75:=Tryz.isAgg311
 z75:=Tryz.sizeOf311
 v75:=Tryz.zeroValue311
 t164:=Tryz.underlying336
 a164:=Tryz.isAgg336
 z164:=Tryz.sizeOf336
 v164:=Tryz.zeroValue336}
theorem Tryz.o6:Builder.Extra Tryz.prog Tryz.qO where
 sizeBuilder:=by kernel_rfl
 liesBuilder:=by kernel_rfl
 t5:=b4
 a5:=Tryz.isAgg5
 z5:=Tryz.sizeOf5
 v5:=Tryz.zeroValue5
 infoByte:=by kernel_rfl
 cellsByte:=by kernel_rfl
 sizeByte:=by kernel_rfl
 neB5:=by decide
end Go.Proofs
namespace Go.K
open Go.Proofs
set_option maxRecDepth 10000
open Go.RowKit Go.Shelf
theorem An (r:Int) (w:World):Spec Tryz.prog 277 #[.int .i32 r] w (fun v w'=>v= .bool (Lib.validRune r)∧w'=w):=(Any.utf8_ValidRune Tryz.HT r w).mono fun e w' ⟨h1,h2⟩=>⟨_,h1,rfl,h2⟩
theorem CO {B b:Nat} {bs:List Value} {r:Int} (w:World) (hr: -2147483648≤r∧r≤2147483647) (h:Lib.IsBuilderF 309 5 B b bs w) (hl:bs.length+4≤140737488355328) (hB:B≤w.heap.size):
  Spec Tryz.prog 254 #[.pointer (some ⟨b,0,none⟩),.int .i32 r] w (fun v w'=>Lib.IsBuilderF 309 5 B b (bs++Lib.runeCells r) w'∧Below B w w'):=
 (Any.Builder_WriteRune_k Tryz.HV Tryz.o6 B b bs r hr.1 hr.2 w h hl hB).mono fun e w' ⟨h1,h2,h3,_⟩=>⟨_,h1,.inr h2,h3⟩
theorem Ex {B b:Nat} {l:List UInt8} (w:World) (h:Lib.IsBuilderF 309 5 B b (Lib.byteCells l) w) (hB:B≤w.heap.size):
  Spec Tryz.prog 256 #[.pointer (some ⟨b,0,none⟩)] w (fun v w'=>v= .string ⟨l.toArray⟩∧Below B w w'):=
 (Any.Builder_String_any_k Tryz.HS Tryz.o5 B b l w h hB).mono fun e w' ⟨h1,_,h3,_⟩=>⟨_,h1,rfl,h3⟩
theorem wrap32 {c:Int} (h:0≤c∧c≤1114111):IntKind.i32.wrap c=c:=by
 show(if(true&&decide (c%4294967296≥2147483648))=true then c%4294967296-4294967296 else c%4294967296)=c;rw[if_neg (by simp only[dw,decide_eq_true_eq];omega)];omega
def o7 (c:Int):Int:=if c<0∨c>1114111∨Lib.validRune c=false then 65533 else c
theorem BR (c:Int):0≤o7 c∧o7 c≤1114111:=by unfold o7;split<;>omega
def iF (l:List Int):List UInt8:=l.flatMap fun c=>Lib.encodeRune (o7 c)
theorem j6 (l:List Int) (c:Int):iF (l++[c])=iF l++Lib.encodeRune (o7 c):=by simp[iF]
theorem HW (r:Int):(Lib.encodeRune r).length≤4:=by have:=(Lib.encodeRuneZ_length r).2;simpa[Lib.encodeRune]using this
theorem eQ (l:List Int):(iF l).length≤4*l.length:=by
 induction l with
 |nil=>simp[iF]
 |cons c l ih=>
  have:=HW (o7 c);simp only[iF,List.flatMap_cons,bL,cr]at ih ⊢;omega
theorem sF (l:List Int) (c:Int):Lib.byteCells (iF l)++Lib.runeCells (o7 c)=Lib.byteCells (iF (l++[c])):=by
 rw[j6,←Lib.byteCells_encodeRune];simp[Lib.byteCells]
theorem Ey (c:Int) (w0:World):
  Spec Tryz.prog 255 #[.int .i64 c] w0 (fun v w=>v= .int .i32 (o7 c)∧w=w0):=by
 refine aX (args:=[_]) (fn:=Tryz.f255) Tryz.func255 rfl (n:=17) Tryz.ntmps255 (aj (ah (ai rfl rfl (ad (aj (aj (ah (ae rfl rfl (cf rfl rfl rfl (ae rfl rfl ?_))))))))));refine aG (g:=5) rfl (fun fF=>?_) (fun fF=>?_)
 ·refine ao rfl rfl rfl rfl (ao rfl rfl rfl rfl (aQ rfl rfl rfl (ae rfl rfl (ao rfl rfl rfl rfl (ao rfl rfl rfl rfl (ao rfl rfl rfl rfl (ao rfl rfl rfl rfl (aQ rfl rfl rfl (ad (lC rfl (aj ?_)))))))))));refine ah (ai rfl rfl (ad (aJ ?_)));exact aO rfl rfl ⟨by rw[o7,if_pos (by first|exact .inl (by omega)|exact .inr (.inl (by omega))|exact .inr (.inr (by assumption)))],rfl⟩
 ·refine al rfl rfl (ae rfl rfl (al rfl rfl (nK rfl rfl rfl (ax rfl rfl rfl (ae rfl rfl ?_)))));refine aG (g:=9) rfl (fun wN=>?_) (fun wN=>?_)
  ·refine ao rfl rfl rfl rfl (ao rfl rfl rfl rfl (ao rfl rfl rfl rfl (ao rfl rfl rfl rfl (aQ rfl rfl rfl (ad (lC rfl (aj (ah (ai rfl rfl (ad (aJ ?_)))))))))));exact aO rfl rfl ⟨by rw[o7,if_pos (by first|exact .inl (by omega)|exact .inr (.inl (by omega))|exact .inr (.inr (by assumption)))],rfl⟩
  ·refine al rfl rfl (ae rfl rfl (al rfl rfl (tX ar Tryz.underlying21 rfl rfl (bu (v':= .int .i32 c) (congrArg (Value.int .i32) (wrap32 (by omega))) (al rfl rfl ?_)))));refine aP rfl rfl Ur (An _ _) (fun r wc hc=>?_);obtain⟨rfl,rfl⟩:=hc;refine al rfl rfl (Rg.not rfl rfl (bu (v':= .bool (decide (Lib.validRune c=false))) (by cases Lib.validRune c<;>rfl) (ax rfl rfl rfl (ad ?_))));refine bI rfl (fun c1=>?_) (fun c1=>?_)
   ·refine aj (ah (ai rfl rfl (ad (aJ ?_))));exact aO rfl rfl ⟨by rw[o7,if_pos (by first|exact .inl (by omega)|exact .inr (.inl (by omega))|exact .inr (.inr (by assumption)))],rfl⟩
   ·refine aU (aj (ah (ae rfl rfl (tX ar Tryz.underlying21 rfl rfl (bu (v':= .int .i32 c) (congrArg (Value.int .i32) (wrap32 (by omega))) (ai rfl rfl (ad (aJ ?_))))))));exact aO rfl rfl ⟨by rw[o7,if_neg (by rintro(h|h|h)<;>first|omega|exact absurd h (by assumption))],rfl⟩
theorem CP {M:aA} {xs:List Int} {v0:Value} (w0:World) (hM:Lt M w0) (hv:((RT.int .i64).sl).V M w0 xs v0) (hl:xs.length≤1000000):
  Spec Tryz.prog 224 #[v0] w0 (fun v w=>v= .string ⟨(iF xs).toArray⟩∧Step M w0 M w aC):=by
 refine aX (args:=[_]) (fn:=Tryz.f224) Tryz.func224 rfl (n:=17) Tryz.ntmps224 (aj (ah (ai rfl rfl (ad (aj (ah ?_))))));refine eW M TP rfl (fun b w1 p1 q1 g1 s1=>?_);have o8:Lib.IsBuilderF 309 5 w0.heap.size b (Lib.byteCells (iF (xs.take 0))) w1:= .of (.inl ⟨p1,.slice none 0 0,g1,World.ownsRow_nil _ _ _ _,by simp[Value.ownBlock]⟩);have S1:Below w0.heap.size w0 w1:=s1.below;refine ad (aj (aj (ah (ae rfl rfl (bU au rfl hv rfl (ae rfl rfl (ad (a8 ?_))))))));refine dC (σ:=Nat) (fun k=>[(3,.pointer (some ⟨b,0,none⟩)),(6,v0),(7,.int .i64 (xs.length:Int)),(8,.int .i64 (k:Int))]) (fun k w=>Lib.IsBuilderF 309 5 w0.heap.size b (Lib.byteCells (iF (xs.take k))) w∧Below w0.heap.size w0 w∧k≤xs.length) (fun k=>xs.length-k) 0 (.cons rfl (.cons rfl (.cons rfl (.cons rfl .nil)))) ?_ ?_
 ·exact⟨o8,S1,bG _⟩
 ·rintro k w ⟨hb,S,hk⟩;refine aj (ah (cf rfl rfl rfl (ad (aj ?_))));refine bI rfl (fun c3=>?_) (fun c3=>?_)
  ·refine aU (aj (a8 (aj (ah ?_))));refine dq (M:=M) au I3 rfl rfl rfl hv (Step.sw S M).le (by omega) (fun u4 c Ao xS=>?_);refine cb (M:=M) ar rfl rfl xS (aq _ _) (fun in4=>?_);refine ai rfl rfl (ad (ah (ae rfl rfl ?_)));refine aP rfl rfl Up (Ey c _) (fun r wc hc=>?_);obtain⟨rfl,rfl⟩:=hc;refine aP rfl rfl Uo (CO _ (by have:=BR c;omega) hb (by rw[Lib.byteCells_length];have:=eQ (xs.take k);rw[bS]at this;omega) S.size) (fun r5 w5 hc=>?_);obtain⟨NF,S5⟩:=hc;have tk:xs.take (k+1)=xs.take k++[c]:=by rw[cd];simp only[az]at Ao;rw[Ao];rfl
   rw[sF,←tk]at NF;have S6:=S.trans S5;refine ad (ah (bA rfl rfl rfl (by omega) (ae rfl rfl (ad ?_))));refine⟨rfl,k+1,(.cons rfl (.cons rfl (.cons rfl (.cons rfl .nil)))),?_,?_⟩
   ·exact⟨NF,S6,by omega⟩
   ·omega
  ·refine cM (aj (ah ?_));refine aP rfl rfl Uq (Ex _ hb S.size) (fun r7 w7 hc=>?_);obtain⟨rfl,S7⟩:=hc;refine ai rfl rfl (ad (aJ ?_));have e:xs.take k=xs:=bp (by omega);rw[e];exact aO rfl rfl ⟨rfl,Step.sw (S.trans S7) M⟩
end Go.K
namespace Go.K
def nO (c:Int):Int:=if 194≤c∧c<224 then 2 else if 224≤c∧c<240 then 3 else if 240≤c∧c<245 then 4 else 0
def fw (c:Int):Int:=if 194≤c∧c<224 then 128 else if 224≤c∧c<240 then 2048 else if 240≤c∧c<245 then 65536 else 0
def qf (c:Int):Int:=if 194≤c∧c<224 then c-192 else if 224≤c∧c<240 then c-224 else if 240≤c∧c<245 then c-240 else 0
def vO (l:List UInt8):Nat→Int
 |0=>qf (gY l 0)
 |k+1=>64*vO l k+gY l (k+1)-128
theorem fi {l:List UInt8} {k:Nat}:gR l k=true↔k<l.length∧128≤gY l k∧gY l k<192:=by
 unfold gR;simp only[bC,decide_eq_true_eq,beq_iff_eq];omega
theorem vm {n:Nat}:Utf8.valid (n:Int)=true↔(n<55296∨(57344≤n∧n≤1114111)):=by
 simp only[Utf8.valid,Bool.or_eq_true,bC,decide_eq_true_eq];omega
theorem OZ {l:List UInt8} (h:(gY l 0:Int)<128):dec l=(gY l 0,1):=by
 unfold dec yp;rw[if_pos (by omega)]
theorem BS {l:List UInt8} (h0:128≤(gY l 0:Int)) (h:nO (gY l 0)=0∨∃k:Nat,1≤k∧(k:Int)<nO (gY l 0)∧gR l k=false):dec l=(65533,1):=by
 have hb:=lS l 0;unfold dec yp;rw[if_neg (by omega)]
 have hk:nO (gY l 0)=0∨(2≤nO (gY l 0)∧gR l 1=false)∨(3≤nO (gY l 0)∧gR l 2=false)∨(4≤nO (gY l 0)∧gR l 3=false):=by
  rcases h with h|⟨k,h1,h2,h3⟩
  ·exact .inl h
  ·have:nO (gY l 0)≤4:=by
    unfold nO
    split
    ·omega
    ·split
     ·omega
     ·split<;>omega
   have hk:k=1∨k=2∨k=3:=by omega
   rcases hk with rfl|rfl|rfl
   ·exact .inr (.inl ⟨by omega,h3⟩)
   ·exact .inr (.inr (.inl ⟨by omega,h3⟩))
   ·exact .inr (.inr (.inr ⟨by omega,h3⟩))
 simp only[beq_iff_eq,bC,decide_eq_true_eq,ge_iff_le,vm];have hn:nO (gY l 0)=if 194≤(gY l 0:Int)∧(gY l 0:Int)<224 then 2 else if 224≤(gY l 0:Int)∧(gY l 0:Int)<240 then 3 else if 240≤(gY l 0:Int)∧(gY l 0:Int)<245 then 4 else 0:=rfl
 rw[hn]at hk
 split
 ·rename_i hc
  obtain⟨Sj,Hk⟩:=hc
  split
  ·rename_i hv
   exfalso;by_cases acf:194≤(gY l 0:Int)
   ·rw[if_pos (by omega)]at hk;rcases hk with hk|⟨_,hk⟩|⟨hk,_⟩|⟨hk,_⟩
    ·omega
    ·rw[hk]at Hk;cases Hk
    ·omega
    ·omega
   ·omega
  ·rfl
 ·split
  ·rename_i hc
   obtain⟨⟨Sj,Hk⟩,O0⟩:=hc
   split
   ·exfalso;rw[if_neg (by omega),if_pos (by omega)]at hk;rcases hk with hk|⟨_,hk⟩|⟨_,hk⟩|⟨hk,_⟩
    ·omega
    ·rw[hk]at Hk;cases Hk
    ·rw[hk]at O0;cases O0
    ·omega
   ·rfl
  ·split
   ·rename_i hc
    obtain⟨⟨⟨Sj,Hk⟩,O0⟩,Ze⟩:=hc
    split
    ·rename_i hv
     exfalso;by_cases acg:(gY l 0:Int)<245
     ·rw[if_neg (by omega),if_neg (by omega),if_pos (by omega)]at hk;rcases hk with hk|⟨_,hk⟩|⟨_,hk⟩|⟨_,hk⟩
      ·omega
      ·rw[hk]at Hk;cases Hk
      ·rw[hk]at O0;cases O0
      ·rw[hk]at Ze;cases Ze
     ·omega
    ·rfl
   ·rfl
theorem la {c:Int} (h:nO c≠0):(nO c=2∧fw c=128∧qf c=c-192∧194≤c∧c<224)∨(nO c=3∧fw c=2048∧qf c=c-224∧224≤c∧c<240)∨(nO c=4∧fw c=65536∧qf c=c-240∧240≤c∧c<245):=by
 by_cases h1:194≤c∧c<224
 ·exact .inl ⟨if_pos h1,if_pos h1,if_pos h1,h1.1,h1.2⟩
 ·by_cases h2:224≤c∧c<240
  ·exact .inr (.inl ⟨(if_neg h1).trans (if_pos h2),(if_neg h1).trans (if_pos h2),(if_neg h1).trans (if_pos h2),h2.1,h2.2⟩)
  ·by_cases h3:240≤c∧c<245
   ·exact .inr (.inr ⟨(if_neg h1).trans ((if_neg h2).trans (if_pos h3)),(if_neg h1).trans ((if_neg h2).trans (if_pos h3)),(if_neg h1).trans ((if_neg h2).trans (if_pos h3)),h3.1,h3.2⟩)
   ·exact absurd ((if_neg h1).trans ((if_neg h2).trans (if_neg h3))) h
theorem yw {l:List UInt8} (hn:nO (gY l 0)≠0) (hc:∀k:Nat,1≤k→(k:Int)<nO (gY l 0)→gR l k=true) (v:Int) (hv:v=vO l (nO (gY l 0)-1).toNat):
  dec l=if v<fw (gY l 0)∨v>1114111∨(55296≤v∧v≤57343)then(65533,1)else(v.toNat,(nO (gY l 0)).toNat):=by
 have hb:=lS l 0;have b1:=lS l 1;have b2:=lS l 2;have b3:=lS l 3;unfold dec yp;simp only[beq_iff_eq,bC,decide_eq_true_eq,ge_iff_le,vm];rcases la hn with⟨e1,e2,e3,e4,e5⟩|⟨e1,e2,e3,e4,e5⟩|⟨e1,e2,e3,e4,e5⟩
 ·have c1:=hc 1 (by omega) (by omega);have d1:=fi.1 c1;rw[e1]at hv;have wO:v=64*((gY l 0:Int)-192)+gY l 1-128:=by rw[hv];show 64*qf (gY l 0)+_-_=_;rw[e3]
  rw[if_neg (by omega),if_pos ⟨by omega,c1⟩,e2,e1];by_cases hx:v<128∨v>1114111∨(55296≤v∧v≤57343)
  ·rw[if_pos hx,if_neg (by omega)]
  ·rw[if_neg hx,if_pos (by omega)];simp only[Prod.mk.injEq];omega
 ·have c1:=hc 1 (by omega) (by omega);have c2:=hc 2 (by omega) (by omega);have d1:=fi.1 c1;have d2:=fi.1 c2;rw[e1]at hv;have wO:v=64*(64*((gY l 0:Int)-224)+gY l 1-128)+gY l 2-128:=by rw[hv];show 64*(64*qf (gY l 0)+_-_)+_-_=_;rw[e3]
  rw[if_neg (by omega),if_neg (by omega),if_pos ⟨⟨by omega,c1⟩,c2⟩,e2,e1];by_cases hx:v<2048∨v>1114111∨(55296≤v∧v≤57343)
  ·rw[if_pos hx,if_neg (by omega)]
  ·rw[if_neg hx,if_pos (by omega)];simp only[Prod.mk.injEq];omega
 ·have c1:=hc 1 (by omega) (by omega);have c2:=hc 2 (by omega) (by omega);have c3:=hc 3 (by omega) (by omega);have d1:=fi.1 c1;have d2:=fi.1 c2;have d3:=fi.1 c3;rw[e1]at hv;have wO:v=64*(64*(64*((gY l 0:Int)-240)+gY l 1-128)+gY l 2-128)+gY l 3-128:=by rw[hv];show 64*(64*(64*qf (gY l 0)+_-_)+_-_)+_-_=_;rw[e3]
  rw[if_neg (by omega),if_neg (by omega),if_neg (by omega),if_pos ⟨⟨⟨by omega,c1⟩,c2⟩,c3⟩,e2,e1];by_cases hx:v<65536∨v>1114111∨(55296≤v∧v≤57343)
  ·rw[if_pos hx,if_neg (by omega)]
  ·rw[if_neg hx,if_pos (by omega)];simp only[Prod.mk.injEq];omega
end Go.K
namespace Go.K
open Go.Proofs
set_option maxRecDepth 10000
theorem wR (c:Int) (w0:World):
  Spec Tryz.prog 253 #[.int .i64 c] w0 (fun v w=>v= .bool (ez c)∧w=w0):=by
 refine aX (args:=[_]) (fn:=Tryz.f253) Tryz.func253 rfl (n:=31) Tryz.ntmps253 (aj (ah (ai rfl rfl (ad (aj (aj (ah (ae rfl rfl (dr rfl rfl rfl (ae rfl rfl ?_))))))))));refine aG (g:=5) rfl (fun fF=>?_) (fun fF=>?_)
 ·refine al rfl rfl (ae rfl rfl (al rfl rfl (eP rfl rfl rfl (aQ rfl rfl rfl (ae rfl rfl ?_)))));refine aG (g:=9) rfl (fun wN=>?_) (fun wN=>?_)
  ·refine ao rfl rfl rfl rfl (ao rfl rfl rfl rfl (ao rfl rfl rfl rfl (ca rfl rfl rfl (ca rfl rfl rfl (ao rfl rfl rfl rfl (aQ rfl rfl rfl (ad (lC rfl (aj (ah (ai rfl rfl ?_)))))))))));refine ad (aJ ?_);exact aO rfl rfl ⟨by simp only[ez];first|rfl|(congr 1;first|(exact(decide_eq_true (by omega)).symm)|(exact(decide_eq_false (by omega)).symm)|(exact decide_eq_decide.2 (by omega))),rfl⟩
  ·refine al rfl rfl (ae rfl rfl (al rfl rfl (dr rfl rfl rfl (al rfl rfl (ae rfl rfl ?_)))));refine aG (g:=12) rfl (fun oF=>?_) (fun oF=>?_)
   ·refine al rfl rfl (ae rfl rfl (al rfl rfl (eP rfl rfl rfl (al rfl rfl (aQ rfl rfl rfl (ax rfl rfl rfl (ad ?_)))))));refine bI rfl (fun c1=>?_) (fun c1=>?_)
    ·refine aj (ah (ai rfl rfl (ad (aJ ?_))));exact aO rfl rfl ⟨by simp only[ez];first|rfl|(congr 1;first|(exact(decide_eq_true (by omega)).symm)|(exact(decide_eq_false (by omega)).symm)|(exact decide_eq_decide.2 (by omega))),rfl⟩
    ·refine aU (aj (ah (ae rfl rfl (dr rfl rfl rfl (ae rfl rfl ?_)))));refine aG (g:=19) rfl (fun Ap=>?_) (fun Ap=>?_)
     ·refine al rfl rfl (ae rfl rfl (al rfl rfl (eP rfl rfl rfl (aQ rfl rfl rfl (ae rfl rfl ?_)))));refine aG (g:=23) rfl (fun Ar=>?_) (fun Ar=>?_)
      ·refine al rfl rfl (ae rfl rfl (al rfl rfl (eV rfl rfl rfl (aQ rfl rfl rfl (ae rfl rfl ?_)))));refine aG (g:=27) rfl (fun sG=>?_) (fun sG=>?_)
       ·refine al rfl rfl (ae rfl rfl (al rfl rfl (eV rfl rfl rfl (aQ rfl rfl rfl (ai rfl rfl (ad (aJ ?_)))))));exact aO rfl rfl ⟨by simp only[ez];first|rfl|(congr 1;first|(exact(decide_eq_true (by omega)).symm)|(exact(decide_eq_false (by omega)).symm)|(exact decide_eq_decide.2 (by omega))),rfl⟩
       ·refine ao rfl rfl rfl rfl (ao rfl rfl rfl rfl (ax rfl rfl rfl (ai rfl rfl (ad (aJ ?_)))));exact aO rfl rfl ⟨by simp only[ez];first|rfl|(congr 1;first|(exact(decide_eq_true (by omega)).symm)|(exact(decide_eq_false (by omega)).symm)|(exact decide_eq_decide.2 (by omega))),rfl⟩
      ·refine ao rfl rfl rfl rfl (ao rfl rfl rfl rfl (ax rfl rfl rfl (ae rfl rfl (ao rfl rfl rfl rfl (ao rfl rfl rfl rfl (ax rfl rfl rfl (ai rfl rfl (ad (aJ ?_)))))))));exact aO rfl rfl ⟨by simp only[ez];first|rfl|(congr 1;first|(exact(decide_eq_true (by omega)).symm)|(exact(decide_eq_false (by omega)).symm)|(exact decide_eq_decide.2 (by omega))),rfl⟩
     ·refine ao rfl rfl rfl rfl (ao rfl rfl rfl rfl (ax rfl rfl rfl (ae rfl rfl (ao rfl rfl rfl rfl (ao rfl rfl rfl rfl (ax rfl rfl rfl (ae rfl rfl (ao rfl rfl rfl rfl (ao rfl rfl rfl rfl (ax rfl rfl rfl (ai rfl rfl ?_)))))))))));refine ad (aJ ?_);exact aO rfl rfl ⟨by simp only[ez];first|rfl|(congr 1;first|(exact(decide_eq_true (by omega)).symm)|(exact(decide_eq_false (by omega)).symm)|(exact decide_eq_decide.2 (by omega))),rfl⟩
   ·refine ao rfl rfl rfl rfl (ao rfl rfl rfl rfl (al rfl rfl (ax rfl rfl rfl (ax rfl rfl rfl (ad (hU rfl (aU (aj (ah (ae rfl rfl (dr rfl rfl rfl ?_)))))))))));refine ae rfl rfl ?_;refine aG (g:=19) rfl (fun Ap=>?_) (fun Ap=>?_)
    ·refine al rfl rfl (ae rfl rfl (al rfl rfl (eP rfl rfl rfl (aQ rfl rfl rfl (ae rfl rfl ?_)))));refine aG (g:=23) rfl (fun Ar=>?_) (fun Ar=>?_)
     ·refine al rfl rfl (ae rfl rfl (al rfl rfl (eV rfl rfl rfl (aQ rfl rfl rfl (ae rfl rfl ?_)))));refine aG (g:=27) rfl (fun sG=>?_) (fun sG=>?_)
      ·refine al rfl rfl (ae rfl rfl (al rfl rfl (eV rfl rfl rfl (aQ rfl rfl rfl (ai rfl rfl (ad (aJ ?_)))))));exact aO rfl rfl ⟨by simp only[ez];first|rfl|(congr 1;first|(exact(decide_eq_true (by omega)).symm)|(exact(decide_eq_false (by omega)).symm)|(exact decide_eq_decide.2 (by omega))),rfl⟩
      ·refine ao rfl rfl rfl rfl (ao rfl rfl rfl rfl (ax rfl rfl rfl (ai rfl rfl (ad (aJ ?_)))));exact aO rfl rfl ⟨by simp only[ez];first|rfl|(congr 1;first|(exact(decide_eq_true (by omega)).symm)|(exact(decide_eq_false (by omega)).symm)|(exact decide_eq_decide.2 (by omega))),rfl⟩
     ·refine ao rfl rfl rfl rfl (ao rfl rfl rfl rfl (ax rfl rfl rfl (ae rfl rfl (ao rfl rfl rfl rfl (ao rfl rfl rfl rfl (ax rfl rfl rfl (ai rfl rfl (ad (aJ ?_)))))))));exact aO rfl rfl ⟨by simp only[ez];first|rfl|(congr 1;first|(exact(decide_eq_true (by omega)).symm)|(exact(decide_eq_false (by omega)).symm)|(exact decide_eq_decide.2 (by omega))),rfl⟩
    ·refine ao rfl rfl rfl rfl (ao rfl rfl rfl rfl (ax rfl rfl rfl (ae rfl rfl (ao rfl rfl rfl rfl (ao rfl rfl rfl rfl (ax rfl rfl rfl (ae rfl rfl (ao rfl rfl rfl rfl (ao rfl rfl rfl rfl (ax rfl rfl rfl (ai rfl rfl ?_)))))))))));refine ad (aJ ?_);exact aO rfl rfl ⟨by simp only[ez];first|rfl|(congr 1;first|(exact(decide_eq_true (by omega)).symm)|(exact(decide_eq_false (by omega)).symm)|(exact decide_eq_decide.2 (by omega))),rfl⟩
 ·refine ao rfl rfl rfl rfl (ao rfl rfl rfl rfl (ax rfl rfl rfl (ae rfl rfl (al rfl rfl (ae rfl rfl (al rfl rfl (dr rfl rfl rfl (al rfl rfl (ae rfl rfl ?_)))))))));refine aG (g:=12) rfl (fun oF=>?_) (fun oF=>?_)
  ·refine al rfl rfl (ae rfl rfl (al rfl rfl (eP rfl rfl rfl (al rfl rfl (aQ rfl rfl rfl (ax rfl rfl rfl (ad ?_)))))));refine bI rfl (fun c1=>?_) (fun c1=>?_)
   ·refine aj (ah (ai rfl rfl (ad (aJ ?_))));exact aO rfl rfl ⟨by simp only[ez];first|rfl|(congr 1;first|(exact(decide_eq_true (by omega)).symm)|(exact(decide_eq_false (by omega)).symm)|(exact decide_eq_decide.2 (by omega))),rfl⟩
   ·refine aU (aj (ah (ae rfl rfl (dr rfl rfl rfl (ae rfl rfl ?_)))));refine aG (g:=19) rfl (fun Ap=>?_) (fun Ap=>?_)
    ·refine al rfl rfl (ae rfl rfl (al rfl rfl (eP rfl rfl rfl (aQ rfl rfl rfl (ae rfl rfl ?_)))));refine aG (g:=23) rfl (fun Ar=>?_) (fun Ar=>?_)
     ·refine al rfl rfl (ae rfl rfl (al rfl rfl (eV rfl rfl rfl (aQ rfl rfl rfl (ae rfl rfl ?_)))));refine aG (g:=27) rfl (fun sG=>?_) (fun sG=>?_)
      ·refine al rfl rfl (ae rfl rfl (al rfl rfl (eV rfl rfl rfl (aQ rfl rfl rfl (ai rfl rfl (ad (aJ ?_)))))));exact aO rfl rfl ⟨by simp only[ez];first|rfl|(congr 1;first|(exact(decide_eq_true (by omega)).symm)|(exact(decide_eq_false (by omega)).symm)|(exact decide_eq_decide.2 (by omega))),rfl⟩
      ·refine ao rfl rfl rfl rfl (ao rfl rfl rfl rfl (ax rfl rfl rfl (ai rfl rfl (ad (aJ ?_)))));exact aO rfl rfl ⟨by simp only[ez];first|rfl|(congr 1;first|(exact(decide_eq_true (by omega)).symm)|(exact(decide_eq_false (by omega)).symm)|(exact decide_eq_decide.2 (by omega))),rfl⟩
     ·refine ao rfl rfl rfl rfl (ao rfl rfl rfl rfl (ax rfl rfl rfl (ae rfl rfl (ao rfl rfl rfl rfl (ao rfl rfl rfl rfl (ax rfl rfl rfl (ai rfl rfl (ad (aJ ?_)))))))));exact aO rfl rfl ⟨by simp only[ez];first|rfl|(congr 1;first|(exact(decide_eq_true (by omega)).symm)|(exact(decide_eq_false (by omega)).symm)|(exact decide_eq_decide.2 (by omega))),rfl⟩
    ·refine ao rfl rfl rfl rfl (ao rfl rfl rfl rfl (ax rfl rfl rfl (ae rfl rfl (ao rfl rfl rfl rfl (ao rfl rfl rfl rfl (ax rfl rfl rfl (ae rfl rfl (ao rfl rfl rfl rfl (ao rfl rfl rfl rfl (ax rfl rfl rfl (ai rfl rfl ?_)))))))))));refine ad (aJ ?_);exact aO rfl rfl ⟨by simp only[ez];first|rfl|(congr 1;first|(exact(decide_eq_true (by omega)).symm)|(exact(decide_eq_false (by omega)).symm)|(exact decide_eq_decide.2 (by omega))),rfl⟩
  ·refine ao rfl rfl rfl rfl (ao rfl rfl rfl rfl (al rfl rfl (ax rfl rfl rfl (ax rfl rfl rfl (ad (hU rfl (aU (aj (ah (ae rfl rfl (dr rfl rfl rfl ?_)))))))))));refine ae rfl rfl ?_;refine aG (g:=19) rfl (fun Ap=>?_) (fun Ap=>?_)
   ·refine al rfl rfl (ae rfl rfl (al rfl rfl (eP rfl rfl rfl (aQ rfl rfl rfl (ae rfl rfl ?_)))));refine aG (g:=23) rfl (fun Ar=>?_) (fun Ar=>?_)
    ·refine al rfl rfl (ae rfl rfl (al rfl rfl (eV rfl rfl rfl (aQ rfl rfl rfl (ae rfl rfl ?_)))));refine aG (g:=27) rfl (fun sG=>?_) (fun sG=>?_)
     ·refine al rfl rfl (ae rfl rfl (al rfl rfl (eV rfl rfl rfl (aQ rfl rfl rfl (ai rfl rfl (ad (aJ ?_)))))));exact aO rfl rfl ⟨by simp only[ez];first|rfl|(congr 1;first|(exact(decide_eq_true (by omega)).symm)|(exact(decide_eq_false (by omega)).symm)|(exact decide_eq_decide.2 (by omega))),rfl⟩
     ·refine ao rfl rfl rfl rfl (ao rfl rfl rfl rfl (ax rfl rfl rfl (ai rfl rfl (ad (aJ ?_)))));exact aO rfl rfl ⟨by simp only[ez];first|rfl|(congr 1;first|(exact(decide_eq_true (by omega)).symm)|(exact(decide_eq_false (by omega)).symm)|(exact decide_eq_decide.2 (by omega))),rfl⟩
    ·refine ao rfl rfl rfl rfl (ao rfl rfl rfl rfl (ax rfl rfl rfl (ae rfl rfl (ao rfl rfl rfl rfl (ao rfl rfl rfl rfl (ax rfl rfl rfl (ai rfl rfl (ad (aJ ?_)))))))));exact aO rfl rfl ⟨by simp only[ez];first|rfl|(congr 1;first|(exact(decide_eq_true (by omega)).symm)|(exact(decide_eq_false (by omega)).symm)|(exact decide_eq_decide.2 (by omega))),rfl⟩
   ·refine ao rfl rfl rfl rfl (ao rfl rfl rfl rfl (ax rfl rfl rfl (ae rfl rfl (ao rfl rfl rfl rfl (ao rfl rfl rfl rfl (ax rfl rfl rfl (ae rfl rfl (ao rfl rfl rfl rfl (ao rfl rfl rfl rfl (ax rfl rfl rfl (ai rfl rfl ?_)))))))))));refine ad (aJ ?_);exact aO rfl rfl ⟨by simp only[ez];first|rfl|(congr 1;first|(exact(decide_eq_true (by omega)).symm)|(exact(decide_eq_false (by omega)).symm)|(exact decide_eq_decide.2 (by omega))),rfl⟩
theorem As (c:Int) (w0:World) (hc:0≤c∧c≤1114111):
  Spec Tryz.prog 218 #[.int .i64 c] w0 (fun v w=>v= .int .i64 (eC c)∧w=w0):=by
 refine aX (args:=[_]) (fn:=Tryz.f218) Tryz.func218 rfl (n:=28) Tryz.ntmps218 (aj (ah (ai rfl rfl (ad (aj (aj (ah (ae rfl rfl (dr rfl rfl rfl (ae rfl rfl ?_))))))))));refine aG (g:=5) rfl (fun fF=>?_) (fun fF=>?_)
 ·refine al rfl rfl (ae rfl rfl (al rfl rfl (eP rfl rfl rfl (aQ rfl rfl rfl (ae rfl rfl ?_)))));refine aG (g:=9) rfl (fun wN=>?_) (fun wN=>?_)
  ·refine ao rfl rfl rfl rfl (ao rfl rfl rfl rfl (ao rfl rfl rfl rfl (ca rfl rfl rfl (ca rfl rfl rfl (ao rfl rfl rfl rfl (aQ rfl rfl rfl (ae rfl rfl (ao rfl rfl rfl rfl (ao rfl rfl rfl rfl (ao rfl rfl rfl rfl (ca rfl rfl rfl ?_)))))))))));refine ca rfl rfl rfl (ao rfl rfl rfl rfl (aQ rfl rfl rfl (ad (lC rfl (aj (ah (ae rfl rfl (bA rfl rfl rfl (by omega) (ai rfl rfl (ad (aJ ?_)))))))))));exact aO rfl rfl ⟨by rw[eC,if_pos (by omega)],rfl⟩
  ·refine al rfl rfl (ae rfl rfl (al rfl rfl (dr rfl rfl rfl (al rfl rfl (ae rfl rfl ?_)))));refine aG (g:=12) rfl (fun oF=>?_) (fun oF=>?_)
   ·refine al rfl rfl (ae rfl rfl (al rfl rfl (eP rfl rfl rfl (al rfl rfl (aQ rfl rfl rfl (ax rfl rfl rfl (ae rfl rfl ?_)))))));refine aG (g:=17) rfl (fun sy=>?_) (fun sy=>?_)
    ·refine ao rfl rfl rfl rfl (ao rfl rfl rfl rfl (ao rfl rfl rfl rfl (ca rfl rfl rfl (ca rfl rfl rfl (ao rfl rfl rfl rfl (aQ rfl rfl rfl (ad (lC rfl (aj (ah (ae rfl rfl ?_)))))))))));refine bA rfl rfl rfl (by omega) (ai rfl rfl (ad (aJ ?_)));exact aO rfl rfl ⟨by rw[eC,if_pos (by omega)],rfl⟩
    ·refine al rfl rfl (ae rfl rfl (al rfl rfl (dr rfl rfl rfl (al rfl rfl (ae rfl rfl ?_)))));refine aG (g:=20) rfl (fun j5=>?_) (fun j5=>?_)
     ·refine al rfl rfl (ae rfl rfl (al rfl rfl (eP rfl rfl rfl (al rfl rfl (aQ rfl rfl rfl (ax rfl rfl rfl (ad ?_)))))));refine bI rfl (fun c1=>?_) (fun c1=>?_)
      ·refine aj (ah (ae rfl rfl (bA rfl rfl rfl (by omega) (ai rfl rfl (ad (aJ ?_))))));exact aO rfl rfl ⟨by rw[eC,if_pos (by omega)],rfl⟩
      ·refine aU (aj (ah (ae rfl rfl (ai rfl rfl (ad (aJ ?_))))));exact aO rfl rfl ⟨by rw[eC,if_neg (by omega)],rfl⟩
     ·refine ao rfl rfl rfl rfl (ao rfl rfl rfl rfl (al rfl rfl (ax rfl rfl rfl (ax rfl rfl rfl (ad (hU rfl (aU (aj (ah (ae rfl rfl (ai rfl rfl ?_)))))))))));refine ad (aJ ?_);exact aO rfl rfl ⟨by rw[eC,if_neg (by omega)],rfl⟩
   ·refine ao rfl rfl rfl rfl (ao rfl rfl rfl rfl (al rfl rfl (ax rfl rfl rfl (ax rfl rfl rfl (ae rfl rfl (al rfl rfl (ae rfl rfl (al rfl rfl (dr rfl rfl rfl (al rfl rfl (ae rfl rfl ?_)))))))))));refine aG (g:=20) rfl (fun j5=>?_) (fun j5=>?_)
    ·refine al rfl rfl (ae rfl rfl (al rfl rfl (eP rfl rfl rfl (al rfl rfl (aQ rfl rfl rfl (ax rfl rfl rfl (ad ?_)))))));refine bI rfl (fun c1=>?_) (fun c1=>?_)
     ·refine aj (ah (ae rfl rfl (bA rfl rfl rfl (by omega) (ai rfl rfl (ad (aJ ?_))))));exact aO rfl rfl ⟨by rw[eC,if_pos (by omega)],rfl⟩
     ·refine aU (aj (ah (ae rfl rfl (ai rfl rfl (ad (aJ ?_))))));exact aO rfl rfl ⟨by rw[eC,if_neg (by omega)],rfl⟩
    ·refine ao rfl rfl rfl rfl (ao rfl rfl rfl rfl (al rfl rfl (ax rfl rfl rfl (ax rfl rfl rfl (ad (hU rfl (aU (aj (ah (ae rfl rfl (ai rfl rfl ?_)))))))))));refine ad (aJ ?_);exact aO rfl rfl ⟨by rw[eC,if_neg (by omega)],rfl⟩
 ·refine ao rfl rfl rfl rfl (ao rfl rfl rfl rfl (ax rfl rfl rfl (ae rfl rfl (al rfl rfl (ae rfl rfl (al rfl rfl (dr rfl rfl rfl (al rfl rfl (ae rfl rfl ?_)))))))));refine aG (g:=12) rfl (fun oF=>?_) (fun oF=>?_)
  ·refine al rfl rfl (ae rfl rfl (al rfl rfl (eP rfl rfl rfl (al rfl rfl (aQ rfl rfl rfl (ax rfl rfl rfl (ae rfl rfl ?_)))))));refine aG (g:=17) rfl (fun sy=>?_) (fun sy=>?_)
   ·refine ao rfl rfl rfl rfl (ao rfl rfl rfl rfl (ao rfl rfl rfl rfl (ca rfl rfl rfl (ca rfl rfl rfl (ao rfl rfl rfl rfl (aQ rfl rfl rfl (ad (lC rfl (aj (ah (ae rfl rfl ?_)))))))))));refine bA rfl rfl rfl (by omega) (ai rfl rfl (ad (aJ ?_)));exact aO rfl rfl ⟨by rw[eC,if_pos (by omega)],rfl⟩
   ·refine al rfl rfl (ae rfl rfl (al rfl rfl (dr rfl rfl rfl (al rfl rfl (ae rfl rfl ?_)))));refine aG (g:=20) rfl (fun j5=>?_) (fun j5=>?_)
    ·refine al rfl rfl (ae rfl rfl (al rfl rfl (eP rfl rfl rfl (al rfl rfl (aQ rfl rfl rfl (ax rfl rfl rfl (ad ?_)))))));refine bI rfl (fun c1=>?_) (fun c1=>?_)
     ·refine aj (ah (ae rfl rfl (bA rfl rfl rfl (by omega) (ai rfl rfl (ad (aJ ?_))))));exact aO rfl rfl ⟨by rw[eC,if_pos (by omega)],rfl⟩
     ·refine aU (aj (ah (ae rfl rfl (ai rfl rfl (ad (aJ ?_))))));exact aO rfl rfl ⟨by rw[eC,if_neg (by omega)],rfl⟩
    ·refine ao rfl rfl rfl rfl (ao rfl rfl rfl rfl (al rfl rfl (ax rfl rfl rfl (ax rfl rfl rfl (ad (hU rfl (aU (aj (ah (ae rfl rfl (ai rfl rfl ?_)))))))))));refine ad (aJ ?_);exact aO rfl rfl ⟨by rw[eC,if_neg (by omega)],rfl⟩
  ·refine ao rfl rfl rfl rfl (ao rfl rfl rfl rfl (al rfl rfl (ax rfl rfl rfl (ax rfl rfl rfl (ae rfl rfl (al rfl rfl (ae rfl rfl (al rfl rfl (dr rfl rfl rfl (al rfl rfl (ae rfl rfl ?_)))))))))));refine aG (g:=20) rfl (fun j5=>?_) (fun j5=>?_)
   ·refine al rfl rfl (ae rfl rfl (al rfl rfl (eP rfl rfl rfl (al rfl rfl (aQ rfl rfl rfl (ax rfl rfl rfl (ad ?_)))))));refine bI rfl (fun c1=>?_) (fun c1=>?_)
    ·refine aj (ah (ae rfl rfl (bA rfl rfl rfl (by omega) (ai rfl rfl (ad (aJ ?_))))));exact aO rfl rfl ⟨by rw[eC,if_pos (by omega)],rfl⟩
    ·refine aU (aj (ah (ae rfl rfl (ai rfl rfl (ad (aJ ?_))))));exact aO rfl rfl ⟨by rw[eC,if_neg (by omega)],rfl⟩
   ·refine ao rfl rfl rfl rfl (ao rfl rfl rfl rfl (al rfl rfl (ax rfl rfl rfl (ax rfl rfl rfl (ad (hU rfl (aU (aj (ah (ae rfl rfl (ai rfl rfl ?_)))))))))));refine ad (aJ ?_);exact aO rfl rfl ⟨by rw[eC,if_neg (by omega)],rfl⟩
def rA (c:Int):Bool:=decide (ez c=true∨lU c=true)
theorem yx (c:Int) (w0:World):
  Spec Tryz.prog 217 #[.int .i64 c] w0 (fun v w=>v= .bool (rA c)∧w=w0):=by
 refine aX (args:=[_]) (fn:=Tryz.f217) Tryz.func217 rfl (n:=13) Tryz.ntmps217 (aj (ah (ai rfl rfl (ad (aj (ah (ae rfl rfl ?_)))))));refine aP rfl rfl Un (wR _ _) (fun r wc hc=>?_);obtain⟨rfl,rfl⟩:=hc;refine bu (v':= .bool (decide (ez c=true))) (by cases ez c<;>rfl) (ae rfl rfl ?_);refine aG (g:=5) rfl (fun fF=>?_) (fun fF=>?_)
 ·refine ao rfl rfl rfl rfl (ao rfl rfl rfl rfl (ao rfl rfl rfl rfl (ca rfl rfl rfl (ca rfl rfl rfl (ao rfl rfl rfl rfl (aQ rfl rfl rfl (ai rfl rfl (ad (aJ ?_)))))))));have e:(lU c=true)=(48≤c∧c≤57):=by simp[lU]
  exact aO rfl rfl ⟨by simp only[rA,e];first|(congr 1;first|(exact(decide_eq_true (.inl (by assumption))).symm)|(exact(decide_eq_true (.inr (by omega))).symm)|(exact(decide_eq_false (by rintro(h|h)<;>first|exact absurd h (by assumption)|omega)).symm)|(exact decide_eq_decide.2 ⟨fun h=> .inr (by omega),fun h=>h.elim (fun h=>absurd h (by assumption)) (fun h=>by omega)⟩)),rfl⟩
 ·refine al rfl rfl (ae rfl rfl (al rfl rfl (dr rfl rfl rfl (al rfl rfl (ae rfl rfl ?_)))));refine aG (g:=8) rfl (fun qg=>?_) (fun qg=>?_)
  ·refine al rfl rfl (ae rfl rfl (al rfl rfl (eP rfl rfl rfl (al rfl rfl (aQ rfl rfl rfl (ax rfl rfl rfl (ai rfl rfl (ad (aJ ?_)))))))));have e:(lU c=true)=(48≤c∧c≤57):=by simp[lU]
   exact aO rfl rfl ⟨by simp only[rA,e];first|(congr 1;first|(exact(decide_eq_true (.inl (by assumption))).symm)|(exact(decide_eq_true (.inr (by omega))).symm)|(exact(decide_eq_false (by rintro(h|h)<;>first|exact absurd h (by assumption)|omega)).symm)|(exact decide_eq_decide.2 ⟨fun h=> .inr (by omega),fun h=>h.elim (fun h=>absurd h (by assumption)) (fun h=>by omega)⟩)),rfl⟩
  ·refine ao rfl rfl rfl rfl (ao rfl rfl rfl rfl (al rfl rfl (ax rfl rfl rfl (ax rfl rfl rfl (ai rfl rfl (ad (aJ ?_)))))));have e:(lU c=true)=(48≤c∧c≤57):=by simp[lU]
   exact aO rfl rfl ⟨by simp only[rA,e];first|(congr 1;first|(exact(decide_eq_true (.inl (by assumption))).symm)|(exact(decide_eq_true (.inr (by omega))).symm)|(exact(decide_eq_false (by rintro(h|h)<;>first|exact absurd h (by assumption)|omega)).symm)|(exact decide_eq_decide.2 ⟨fun h=> .inr (by omega),fun h=>h.elim (fun h=>absurd h (by assumption)) (fun h=>by omega)⟩)),rfl⟩
theorem KV {l:List UInt8} {c:Int} (hc:c=(gY l 0:Int)) (hn:nO c≠0):∀{k:Nat},(∀j:Nat,1≤j→j<k+1→gR l j=true)→k≤3→0≤vO l k∧vO l k≤100000000:=by
 have key:∀k:Nat,(∀j:Nat,1≤j→j<k+1→gR l j=true)→0≤vO l k∧vO l k≤33*64^k-1:=by
  intro k
  induction k with
  |zero=>
   intro _;have:=la hn;show 0≤qf (gY l 0:Int)∧qf (gY l 0:Int)≤33*64^0-1;rw[←hc];simp only[Int.pow_zero];omega
  |succ k ih=>
   intro h;have h1:=ih fun j h2 h3=>h j h2 (by omega)
   have h2:=fi.1 (h (k+1) (by omega) (by omega));show 0≤64*vO l k+_-128∧64*vO l k+_-128≤_;rw[Int.pow_succ];omega
 intro k h hk;have:=key k h
 have h3:(64:Int)^k≤262144:=by
  rcases(show k=0∨k=1∨k=2∨k=3 by omega)with rfl|rfl|rfl|rfl<;>decide
 omega
theorem Ez {l:List UInt8} (w0:World) (hl:l≠[]) (hlen:l.length≤1000000):
  Spec Tryz.prog 252 #[.string ⟨l.toArray⟩] w0 (fun v w=>v= .tuple #[.int .i64 ((dec l).1:Int),.int .i64 ((dec l).2:Int)]∧w=w0):=by
 have vZ:0<l.length:=lB.2 hl;have hb0:=lS l 0;obtain⟨c,hc⟩:∃c:Int,c=(gY l 0:Int):=⟨_,rfl⟩;have hcr:0≤c∧c<256:=by omega
 refine aX (args:=[_]) (fn:=Tryz.f252) Tryz.func252 rfl (n:=85) Tryz.ntmps252 (aj (ah (ai rfl rfl (ai rfl rfl (ad (aj (ah (ae rfl rfl ?_))))))));refine Rg.BQ (c:=l.getD 0 0) aD rfl rfl rfl (by decide) (by rw[bH];show l[0]? =_;rw[aL vZ];rfl) ?_;refine bu (v':= .int .u8 c) (by rw[hc];rfl) (Rg.rO b4 ar rfl rfl (by omega) (ai rfl rfl (ad (aj (aj (ah (ae rfl rfl (cf rfl rfl rfl (ad ?_)))))))));refine bI rfl (fun c2=>?_) (fun c2=>?_)
 ·refine aj (ah (ae rfl rfl (ai rfl rfl (ai rfl rfl (ad (aJ ?_))))));exact eH rfl rfl rfl ⟨by rw[OZ (by omega),hc];rfl,rfl⟩
 ·refine aU (aj (ah (ai rfl rfl (ad (aj (ah (ai rfl rfl (ad (aj (ah (ai rfl rfl ?_)))))))))));refine ad ?_;refine T.wx [(0,.string ⟨l.toArray⟩),(4,.int .i64 c),(5,.int .i64 (nO c)),(6,.int .i64 (fw c)),(7,.int .i64 (qf c))] ?_ ?_
  ·refine aj (ah (ae rfl rfl (dr rfl rfl rfl (ae rfl rfl ?_))));refine aG (g:=18) rfl (fun Us=>?_) (fun Us=>?_)
   ·refine al rfl rfl (ae rfl rfl (al rfl rfl (cf rfl rfl rfl (aQ rfl rfl rfl (ad ?_)))));refine bI rfl (fun c7=>?_) (fun c7=>?_)
    ·refine aj (ah (ai rfl rfl (ad (aj (ah (ai rfl rfl (ad (ah (ae rfl rfl (fX rfl rfl rfl (by omega) (ai rfl rfl ?_)))))))))));refine ad ?_;exact⟨rfl,rfl,rfl,.cons rfl (.cons rfl (.cons (congrArg (fun z=>some (Value.int .i64 z)) (by first|(exfalso;omega)|(unfold nO;repeat (first|rw[if_pos (by omega)]|rw[if_neg (by omega)])))) (.cons (congrArg (fun z=>some (Value.int .i64 z)) (by first|(exfalso;omega)|(unfold fw;repeat (first|rw[if_pos (by omega)]|rw[if_neg (by omega)])))) (.cons (congrArg (fun z=>some (Value.int .i64 z)) (by first|(exfalso;omega)|(unfold qf;repeat (first|rw[if_pos (by omega)]|rw[if_neg (by omega)])))) (.nil)))))⟩
    ·refine aj (ah (ae rfl rfl (dr rfl rfl rfl (ae rfl rfl ?_))));refine aG (g:=26) rfl (fun EA=>?_) (fun EA=>?_)
     ·refine al rfl rfl (ae rfl rfl (al rfl rfl (cf rfl rfl rfl (aQ rfl rfl rfl (ad ?_)))));refine bI rfl (fun KW=>?_) (fun KW=>?_)
      ·refine aj (ah (ai rfl rfl (ad (aj (ah (ai rfl rfl (ad (ah (ae rfl rfl (fX rfl rfl rfl (by omega) (ai rfl rfl ?_)))))))))));refine ad ?_;exact⟨rfl,rfl,rfl,.cons rfl (.cons rfl (.cons (congrArg (fun z=>some (Value.int .i64 z)) (by first|(exfalso;omega)|(unfold nO;repeat (first|rw[if_pos (by omega)]|rw[if_neg (by omega)])))) (.cons (congrArg (fun z=>some (Value.int .i64 z)) (by first|(exfalso;omega)|(unfold fw;repeat (first|rw[if_pos (by omega)]|rw[if_neg (by omega)])))) (.cons (congrArg (fun z=>some (Value.int .i64 z)) (by first|(exfalso;omega)|(unfold qf;repeat (first|rw[if_pos (by omega)]|rw[if_neg (by omega)])))) (.nil)))))⟩
      ·refine aj (ah (ae rfl rfl (dr rfl rfl rfl (ae rfl rfl ?_))));refine aG (g:=34) rfl (fun sH=>?_) (fun sH=>?_)
       ·refine al rfl rfl (ae rfl rfl (al rfl rfl (cf rfl rfl rfl (aQ rfl rfl rfl (ad ?_)))));refine bI rfl (fun KX=>?_) (fun KX=>?_)
        ·refine aj (ah (ai rfl rfl (ad (aj (ah (ai rfl rfl (ad (ah (ae rfl rfl (fX rfl rfl rfl (by omega) (ai rfl rfl ?_)))))))))));refine ad ?_;exact⟨rfl,rfl,rfl,.cons rfl (.cons rfl (.cons (congrArg (fun z=>some (Value.int .i64 z)) (by first|(exfalso;omega)|(unfold nO;repeat (first|rw[if_pos (by omega)]|rw[if_neg (by omega)])))) (.cons (congrArg (fun z=>some (Value.int .i64 z)) (by first|(exfalso;omega)|(unfold fw;repeat (first|rw[if_pos (by omega)]|rw[if_neg (by omega)])))) (.cons (congrArg (fun z=>some (Value.int .i64 z)) (by first|(exfalso;omega)|(unfold qf;repeat (first|rw[if_pos (by omega)]|rw[if_neg (by omega)])))) (.nil)))))⟩
        ·refine aU ?_;exact⟨rfl,rfl,rfl,.cons rfl (.cons rfl (.cons (congrArg (fun z=>some (Value.int .i64 z)) (by first|(exfalso;omega)|(unfold nO;repeat (first|rw[if_pos (by omega)]|rw[if_neg (by omega)])))) (.cons (congrArg (fun z=>some (Value.int .i64 z)) (by first|(exfalso;omega)|(unfold fw;repeat (first|rw[if_pos (by omega)]|rw[if_neg (by omega)])))) (.cons (congrArg (fun z=>some (Value.int .i64 z)) (by first|(exfalso;omega)|(unfold qf;repeat (first|rw[if_pos (by omega)]|rw[if_neg (by omega)])))) (.nil)))))⟩
       ·refine ao rfl rfl rfl rfl (ao rfl rfl rfl rfl (ax rfl rfl rfl (ad (hU rfl (aU ?_)))));exact⟨rfl,rfl,rfl,.cons rfl (.cons rfl (.cons (congrArg (fun z=>some (Value.int .i64 z)) (by first|(exfalso;omega)|(unfold nO;repeat (first|rw[if_pos (by omega)]|rw[if_neg (by omega)])))) (.cons (congrArg (fun z=>some (Value.int .i64 z)) (by first|(exfalso;omega)|(unfold fw;repeat (first|rw[if_pos (by omega)]|rw[if_neg (by omega)])))) (.cons (congrArg (fun z=>some (Value.int .i64 z)) (by first|(exfalso;omega)|(unfold qf;repeat (first|rw[if_pos (by omega)]|rw[if_neg (by omega)])))) (.nil)))))⟩
     ·refine ao rfl rfl rfl rfl (ao rfl rfl rfl rfl (ax rfl rfl rfl (ad (hU rfl (aj (ah (ae rfl rfl (dr rfl rfl rfl (ae rfl rfl ?_)))))))));refine aG (g:=34) rfl (fun sH=>?_) (fun sH=>?_)
      ·refine al rfl rfl (ae rfl rfl (al rfl rfl (cf rfl rfl rfl (aQ rfl rfl rfl (ad ?_)))));refine bI rfl (fun KX=>?_) (fun KX=>?_)
       ·refine aj (ah (ai rfl rfl (ad (aj (ah (ai rfl rfl (ad (ah (ae rfl rfl (fX rfl rfl rfl (by omega) (ai rfl rfl ?_)))))))))));refine ad ?_;exact⟨rfl,rfl,rfl,.cons rfl (.cons rfl (.cons (congrArg (fun z=>some (Value.int .i64 z)) (by first|(exfalso;omega)|(unfold nO;repeat (first|rw[if_pos (by omega)]|rw[if_neg (by omega)])))) (.cons (congrArg (fun z=>some (Value.int .i64 z)) (by first|(exfalso;omega)|(unfold fw;repeat (first|rw[if_pos (by omega)]|rw[if_neg (by omega)])))) (.cons (congrArg (fun z=>some (Value.int .i64 z)) (by first|(exfalso;omega)|(unfold qf;repeat (first|rw[if_pos (by omega)]|rw[if_neg (by omega)])))) (.nil)))))⟩
       ·refine aU ?_;exact⟨rfl,rfl,rfl,.cons rfl (.cons rfl (.cons (congrArg (fun z=>some (Value.int .i64 z)) (by first|(exfalso;omega)|(unfold nO;repeat (first|rw[if_pos (by omega)]|rw[if_neg (by omega)])))) (.cons (congrArg (fun z=>some (Value.int .i64 z)) (by first|(exfalso;omega)|(unfold fw;repeat (first|rw[if_pos (by omega)]|rw[if_neg (by omega)])))) (.cons (congrArg (fun z=>some (Value.int .i64 z)) (by first|(exfalso;omega)|(unfold qf;repeat (first|rw[if_pos (by omega)]|rw[if_neg (by omega)])))) (.nil)))))⟩
      ·refine ao rfl rfl rfl rfl (ao rfl rfl rfl rfl (ax rfl rfl rfl (ad (hU rfl (aU ?_)))));exact⟨rfl,rfl,rfl,.cons rfl (.cons rfl (.cons (congrArg (fun z=>some (Value.int .i64 z)) (by first|(exfalso;omega)|(unfold nO;repeat (first|rw[if_pos (by omega)]|rw[if_neg (by omega)])))) (.cons (congrArg (fun z=>some (Value.int .i64 z)) (by first|(exfalso;omega)|(unfold fw;repeat (first|rw[if_pos (by omega)]|rw[if_neg (by omega)])))) (.cons (congrArg (fun z=>some (Value.int .i64 z)) (by first|(exfalso;omega)|(unfold qf;repeat (first|rw[if_pos (by omega)]|rw[if_neg (by omega)])))) (.nil)))))⟩
   ·refine ao rfl rfl rfl rfl (ao rfl rfl rfl rfl (ax rfl rfl rfl (ad (hU rfl (aj (ah (ae rfl rfl (dr rfl rfl rfl (ae rfl rfl ?_)))))))));refine aG (g:=26) rfl (fun EA=>?_) (fun EA=>?_)
    ·refine al rfl rfl (ae rfl rfl (al rfl rfl (cf rfl rfl rfl (aQ rfl rfl rfl (ad ?_)))));refine bI rfl (fun KW=>?_) (fun KW=>?_)
     ·refine aj (ah (ai rfl rfl (ad (aj (ah (ai rfl rfl (ad (ah (ae rfl rfl (fX rfl rfl rfl (by omega) (ai rfl rfl ?_)))))))))));refine ad ?_;exact⟨rfl,rfl,rfl,.cons rfl (.cons rfl (.cons (congrArg (fun z=>some (Value.int .i64 z)) (by first|(exfalso;omega)|(unfold nO;repeat (first|rw[if_pos (by omega)]|rw[if_neg (by omega)])))) (.cons (congrArg (fun z=>some (Value.int .i64 z)) (by first|(exfalso;omega)|(unfold fw;repeat (first|rw[if_pos (by omega)]|rw[if_neg (by omega)])))) (.cons (congrArg (fun z=>some (Value.int .i64 z)) (by first|(exfalso;omega)|(unfold qf;repeat (first|rw[if_pos (by omega)]|rw[if_neg (by omega)])))) (.nil)))))⟩
     ·refine aj (ah (ae rfl rfl (dr rfl rfl rfl (ae rfl rfl ?_))));refine aG (g:=34) rfl (fun sH=>?_) (fun sH=>?_)
      ·refine al rfl rfl (ae rfl rfl (al rfl rfl (cf rfl rfl rfl (aQ rfl rfl rfl (ad ?_)))));refine bI rfl (fun KX=>?_) (fun KX=>?_)
       ·refine aj (ah (ai rfl rfl (ad (aj (ah (ai rfl rfl (ad (ah (ae rfl rfl (fX rfl rfl rfl (by omega) (ai rfl rfl ?_)))))))))));refine ad ?_;exact⟨rfl,rfl,rfl,.cons rfl (.cons rfl (.cons (congrArg (fun z=>some (Value.int .i64 z)) (by first|(exfalso;omega)|(unfold nO;repeat (first|rw[if_pos (by omega)]|rw[if_neg (by omega)])))) (.cons (congrArg (fun z=>some (Value.int .i64 z)) (by first|(exfalso;omega)|(unfold fw;repeat (first|rw[if_pos (by omega)]|rw[if_neg (by omega)])))) (.cons (congrArg (fun z=>some (Value.int .i64 z)) (by first|(exfalso;omega)|(unfold qf;repeat (first|rw[if_pos (by omega)]|rw[if_neg (by omega)])))) (.nil)))))⟩
       ·refine aU ?_;exact⟨rfl,rfl,rfl,.cons rfl (.cons rfl (.cons (congrArg (fun z=>some (Value.int .i64 z)) (by first|(exfalso;omega)|(unfold nO;repeat (first|rw[if_pos (by omega)]|rw[if_neg (by omega)])))) (.cons (congrArg (fun z=>some (Value.int .i64 z)) (by first|(exfalso;omega)|(unfold fw;repeat (first|rw[if_pos (by omega)]|rw[if_neg (by omega)])))) (.cons (congrArg (fun z=>some (Value.int .i64 z)) (by first|(exfalso;omega)|(unfold qf;repeat (first|rw[if_pos (by omega)]|rw[if_neg (by omega)])))) (.nil)))))⟩
      ·refine ao rfl rfl rfl rfl (ao rfl rfl rfl rfl (ax rfl rfl rfl (ad (hU rfl (aU ?_)))));exact⟨rfl,rfl,rfl,.cons rfl (.cons rfl (.cons (congrArg (fun z=>some (Value.int .i64 z)) (by first|(exfalso;omega)|(unfold nO;repeat (first|rw[if_pos (by omega)]|rw[if_neg (by omega)])))) (.cons (congrArg (fun z=>some (Value.int .i64 z)) (by first|(exfalso;omega)|(unfold fw;repeat (first|rw[if_pos (by omega)]|rw[if_neg (by omega)])))) (.cons (congrArg (fun z=>some (Value.int .i64 z)) (by first|(exfalso;omega)|(unfold qf;repeat (first|rw[if_pos (by omega)]|rw[if_neg (by omega)])))) (.nil)))))⟩
    ·refine ao rfl rfl rfl rfl (ao rfl rfl rfl rfl (ax rfl rfl rfl (ad (hU rfl (aj (ah (ae rfl rfl (dr rfl rfl rfl (ae rfl rfl ?_)))))))));refine aG (g:=34) rfl (fun sH=>?_) (fun sH=>?_)
     ·refine al rfl rfl (ae rfl rfl (al rfl rfl (cf rfl rfl rfl (aQ rfl rfl rfl (ad ?_)))));refine bI rfl (fun KX=>?_) (fun KX=>?_)
      ·refine aj (ah (ai rfl rfl (ad (aj (ah (ai rfl rfl (ad (ah (ae rfl rfl (fX rfl rfl rfl (by omega) (ai rfl rfl ?_)))))))))));refine ad ?_;exact⟨rfl,rfl,rfl,.cons rfl (.cons rfl (.cons (congrArg (fun z=>some (Value.int .i64 z)) (by first|(exfalso;omega)|(unfold nO;repeat (first|rw[if_pos (by omega)]|rw[if_neg (by omega)])))) (.cons (congrArg (fun z=>some (Value.int .i64 z)) (by first|(exfalso;omega)|(unfold fw;repeat (first|rw[if_pos (by omega)]|rw[if_neg (by omega)])))) (.cons (congrArg (fun z=>some (Value.int .i64 z)) (by first|(exfalso;omega)|(unfold qf;repeat (first|rw[if_pos (by omega)]|rw[if_neg (by omega)])))) (.nil)))))⟩
      ·refine aU ?_;exact⟨rfl,rfl,rfl,.cons rfl (.cons rfl (.cons (congrArg (fun z=>some (Value.int .i64 z)) (by first|(exfalso;omega)|(unfold nO;repeat (first|rw[if_pos (by omega)]|rw[if_neg (by omega)])))) (.cons (congrArg (fun z=>some (Value.int .i64 z)) (by first|(exfalso;omega)|(unfold fw;repeat (first|rw[if_pos (by omega)]|rw[if_neg (by omega)])))) (.cons (congrArg (fun z=>some (Value.int .i64 z)) (by first|(exfalso;omega)|(unfold qf;repeat (first|rw[if_pos (by omega)]|rw[if_neg (by omega)])))) (.nil)))))⟩
     ·refine ao rfl rfl rfl rfl (ao rfl rfl rfl rfl (ax rfl rfl rfl (ad (hU rfl (aU ?_)))));exact⟨rfl,rfl,rfl,.cons rfl (.cons rfl (.cons (congrArg (fun z=>some (Value.int .i64 z)) (by first|(exfalso;omega)|(unfold nO;repeat (first|rw[if_pos (by omega)]|rw[if_neg (by omega)])))) (.cons (congrArg (fun z=>some (Value.int .i64 z)) (by first|(exfalso;omega)|(unfold fw;repeat (first|rw[if_pos (by omega)]|rw[if_neg (by omega)])))) (.cons (congrArg (fun z=>some (Value.int .i64 z)) (by first|(exfalso;omega)|(unfold qf;repeat (first|rw[if_pos (by omega)]|rw[if_neg (by omega)])))) (.nil)))))⟩
  ·refine aj (aj (ah (ae rfl rfl (Rg.zY rfl rfl rfl (ae rfl rfl ?_)))));refine aG (g:=42) rfl (fun O1=>?_) (fun O1=>?_)
   ·refine ao rfl rfl rfl rfl (ao rfl rfl rfl rfl (ao rfl rfl rfl rfl (ao rfl rfl rfl rfl (aQ rfl rfl rfl (ad (lC rfl (aj (ah (ai rfl rfl (ai rfl rfl (ad ?_)))))))))));refine aJ ?_
    have hx:nO (gY l 0:Int)=0∨∃k:Nat,1≤k∧(k:Int)<nO (gY l 0:Int)∧gR l k=false:=by
     rw[←hc];by_cases h0:nO c=0
     ·exact .inl h0
     ·have Tj:=la h0;exact .inr ⟨(nO c).toNat-1,by omega,by omega,ey.2 fun h=>by have:=(fi.1 h).1;omega⟩
    have e:dec l=(65533,1):=BS (by omega) hx;exact eH rfl rfl rfl ⟨by rw[e];rfl,rfl⟩
   ·refine al rfl rfl (ae rfl rfl (al rfl rfl (Rg.kI aD rfl rfl (bu (v':= .int .i64 (l.length:Int)) (by simp[ByteArray.size]) (al rfl rfl (ae rfl rfl (al rfl rfl (cf rfl rfl rfl (ax rfl rfl rfl (ad ?_))))))))));refine bI rfl (fun Ut=>?_) (fun Ut=>?_)
    ·refine aj (ah (ai rfl rfl (ai rfl rfl (ad (aJ ?_)))))
     have hx:nO (gY l 0:Int)=0∨∃k:Nat,1≤k∧(k:Int)<nO (gY l 0:Int)∧gR l k=false:=by
      rw[←hc];by_cases h0:nO c=0
      ·exact .inl h0
      ·have Tj:=la h0;exact .inr ⟨(nO c).toNat-1,by omega,by omega,ey.2 fun h=>by have:=(fi.1 h).1;omega⟩
     have e:dec l=(65533,1):=BS (by omega) hx;exact eH rfl rfl rfl ⟨by rw[e];rfl,rfl⟩
    ·refine aU (aj (aj (ah (ai rfl rfl (ad (a8 ?_))))));refine dC (σ:=Nat) (fun i=>[(0,.string ⟨l.toArray⟩),(5,.int .i64 (nO c)),(6,.int .i64 (fw c)),(7,.int .i64 (vO l (i-1))),(8,.int .i64 (i:Int))]) (fun i w=>w=w0∧1≤i∧(i:Int)≤nO c∧∀k:Nat,1≤k→k<i→gR l k=true) (fun i=>(nO c).toNat-i) 1 (.cons rfl (.cons rfl (.cons rfl (.cons (congrArg (fun z=>some (Value.int .i64 z)) (by show qf c=qf (gY l 0:Int);rw[hc])) (.cons rfl .nil))))) ?_ ?_
     ·exact⟨rfl,bj _,by have:=la (c:=c) (by omega);omega,fun k h1 h2=>by omega⟩
     ·rintro i w ⟨rfl,uL,zU,fu⟩;have Tj:=la (c:=c) (by omega)
      have Zf:0≤vO l (i-1)∧vO l (i-1)≤100000000:=by
       exact KV (l:=l) (c:=c) (k:=i-1) hc (by omega) (fun j h1 h2=>fu j h1 (by omega)) (by omega)
      refine aj (aj (ah (ae rfl rfl (ae rfl rfl (cf rfl rfl rfl (ad ?_))))));refine bI rfl (fun c22=>?_) (fun c22=>?_)
      ·refine aU (aj (a8 (aj (ah (ae rfl rfl (ae rfl rfl ?_))))));have ly:i<l.length:=by omega
       refine Rg.BQ (c:=l.getD i 0) aD rfl rfl rfl (by omega) (by rw[bH,az,aL ly];rfl) ?_;refine bu (v':= .int .u8 (gY l i:Int)) rfl ?_;have NG:=lS l i;refine Rg.rO b4 ar rfl rfl (by omega) (ai rfl rfl (ad (aj (aj (ah (ae rfl rfl (cf rfl rfl rfl (ae rfl rfl ?_))))))));refine aG (g:=59) rfl (fun O2=>?_) (fun O2=>?_)
       ·refine ao rfl rfl rfl rfl (ao rfl rfl rfl rfl (aQ rfl rfl rfl (ad (lC rfl (aj (ah (ai rfl rfl (ai rfl rfl (ad (aJ ?_))))))))))
        have hx:nO (gY l 0:Int)=0∨∃k:Nat,1≤k∧(k:Int)<nO (gY l 0:Int)∧gR l k=false:=by
         rw[←hc];exact .inr ⟨i,uL,by omega,ey.2 fun h=>by have:=fi.1 h;omega⟩
        have e:dec l=(65533,1):=BS (by omega) hx;exact eH rfl rfl rfl ⟨by rw[e];rfl,rfl⟩
       ·refine al rfl rfl (ae rfl rfl (al rfl rfl (dr rfl rfl rfl (ax rfl rfl rfl (ad ?_)))));refine bI rfl (fun c25=>?_) (fun c25=>?_)
        ·refine aj (ah (ai rfl rfl (ai rfl rfl (ad (aJ ?_)))))
         have hx:nO (gY l 0:Int)=0∨∃k:Nat,1≤k∧(k:Int)<nO (gY l 0:Int)∧gR l k=false:=by
          rw[←hc];exact .inr ⟨i,uL,by omega,ey.2 fun h=>by have:=fi.1 h;omega⟩
         have e:dec l=(65533,1):=BS (by omega) hx;exact eH rfl rfl rfl ⟨by rw[e];rfl,rfl⟩
        ·refine aU (ah (ae rfl rfl (Rg.Kq rfl rfl rfl (by omega) (ae rfl rfl (bA rfl rfl rfl (by omega) (fX rfl rfl rfl (by omega) (ai rfl rfl (ad (ah (ae rfl rfl (bA rfl rfl rfl (by omega) ?_)))))))))));refine ai rfl rfl (ad ?_);refine⟨rfl,i+1,(.cons rfl (.cons rfl (.cons rfl (.cons (congrArg (fun z=>some (Value.int .i64 z)) (by obtain⟨q,rfl⟩:∃q,i=q+1:=⟨i-1,by omega⟩;rfl)) (.cons rfl .nil))))),?_,?_⟩
         ·exact⟨rfl,by omega,by omega,fun k h1 h2=>by
           rcases cK k i with h|h
           ·exact fu k h1 h
           ·obtain rfl:k=i:=by omega
            exact fi.2 (by omega)⟩
         ·omega
      ·refine cM (aj (aj (ah (ae rfl rfl (ae rfl rfl (cf rfl rfl rfl (ae rfl rfl ?_)))))));refine aG (g:=71) rfl (fun O3=>?_) (fun O3=>?_)
       ·refine ao rfl rfl rfl rfl (ao rfl rfl rfl rfl (aQ rfl rfl rfl (ae rfl rfl (ao rfl rfl rfl rfl (ao rfl rfl rfl rfl (ao rfl rfl rfl rfl (ca rfl rfl rfl (ca rfl rfl rfl (ao rfl rfl rfl rfl (aQ rfl rfl rfl (ad ?_)))))))))));refine lC rfl (aj (ah (ai rfl rfl (ai rfl rfl (ad (aJ ?_))))));have e:=yw (l:=l) (by rw[←hc];omega) (by rw[←hc];exact fun k h1 h2=>fu k h1 (by omega)) (vO l (i-1)) (by rw[←hc];congr 1;omega);rw[←hc,if_pos (by omega)]at e;exact eH rfl rfl rfl ⟨by rw[e];rfl,rfl⟩
       ·refine al rfl rfl (ae rfl rfl (al rfl rfl (nK rfl rfl rfl (ax rfl rfl rfl (ae rfl rfl ?_)))));refine aG (g:=75) rfl (fun O4=>?_) (fun O4=>?_)
        ·refine ao rfl rfl rfl rfl (ao rfl rfl rfl rfl (ao rfl rfl rfl rfl (ca rfl rfl rfl (ca rfl rfl rfl (ao rfl rfl rfl rfl (aQ rfl rfl rfl (ad (lC rfl (aj (ah (ai rfl rfl ?_)))))))))));refine ai rfl rfl (ad (aJ ?_));have e:=yw (l:=l) (by rw[←hc];omega) (by rw[←hc];exact fun k h1 h2=>fu k h1 (by omega)) (vO l (i-1)) (by rw[←hc];congr 1;omega);rw[←hc,if_pos (by omega)]at e;exact eH rfl rfl rfl ⟨by rw[e];rfl,rfl⟩
        ·refine al rfl rfl (ae rfl rfl (al rfl rfl (dr rfl rfl rfl (al rfl rfl (ae rfl rfl ?_)))));refine aG (g:=78) rfl (fun KY=>?_) (fun KY=>?_)
         ·refine al rfl rfl (ae rfl rfl (al rfl rfl (eP rfl rfl rfl (al rfl rfl (aQ rfl rfl rfl (ax rfl rfl rfl (ad ?_)))))));refine bI rfl (fun c28=>?_) (fun c28=>?_)
          ·refine aj (ah (ai rfl rfl (ai rfl rfl (ad (aJ ?_)))));have e:=yw (l:=l) (by rw[←hc];omega) (by rw[←hc];exact fun k h1 h2=>fu k h1 (by omega)) (vO l (i-1)) (by rw[←hc];congr 1;omega);rw[←hc,if_pos (by omega)]at e;exact eH rfl rfl rfl ⟨by rw[e];rfl,rfl⟩
          ·refine aU (aj (ah (ae rfl rfl (ae rfl rfl (ai rfl rfl (ai rfl rfl (ad (aJ ?_))))))));have e:=yw (l:=l) (by rw[←hc];omega) (by rw[←hc];exact fun k h1 h2=>fu k h1 (by omega)) (vO l (i-1)) (by rw[←hc];congr 1;omega);rw[←hc,if_neg (by omega)]at e;exact eH rfl rfl rfl ⟨by rw[e];simp only[];rw[lD Zf.1,lD (by omega)],rfl⟩
         ·refine ao rfl rfl rfl rfl (ao rfl rfl rfl rfl (al rfl rfl (ax rfl rfl rfl (ax rfl rfl rfl (ad (hU rfl (aU (aj (ah (ae rfl rfl (ae rfl rfl ?_)))))))))));refine ai rfl rfl (ai rfl rfl (ad (aJ ?_)));have e:=yw (l:=l) (by rw[←hc];omega) (by rw[←hc];exact fun k h1 h2=>fu k h1 (by omega)) (vO l (i-1)) (by rw[←hc];congr 1;omega);rw[←hc,if_neg (by omega)]at e;exact eH rfl rfl rfl ⟨by rw[e];simp only[];rw[lD Zf.1,lD (by omega)],rfl⟩
theorem yy {M:aA} {l:List UInt8} (w0:World) (hM:Lt M w0) (hl:l.length≤1000000):
  Spec Tryz.prog 216 #[.string ⟨l.toArray⟩] w0 (fun v w=>((RT.int .i64).sl).V M w (dW l) v∧Step M w0 M w aC):=by
 have jL:=hM;refine aX (args:=[_]) (fn:=Tryz.f216) Tryz.func216 rfl (n:=22) Tryz.ntmps216 ?_;have S:Step M w0 M w0 aC:=(an _ _).cc (fun _ h=>h.elim) (fun _ h=>h.elim);refine aj (ah (ai rfl rfl (ad (aj (ah (ai rfl rfl (ad (aj (a8 ?_)))))))));refine dC (σ:=Nat×List Int×Value) (fun q=>[(0,.string ⟨(l.drop q.1).toArray⟩),(3,q.2.2)]) (fun q w=>∃M',Lt M' w∧Step M w0 M' w aC∧Own (RT.int .i64) 3 M' w w0.heap.size q.2.2 q.2.1∧dW l=q.2.1++dW (l.drop q.1)∧q.1≤l.length) (fun q=>l.length-q.1) (0,[],.slice none 0 0) (.cons rfl (.cons rfl .nil)) ?_ ?_
 ·exact⟨M,hM,S,ec _ _ _ _ _,by simp,by simp⟩
 ·rintro⟨p,xs,u⟩ w ⟨M1,hM,S,ho,wT,hp⟩;dsimp only at ho wT hp ⊢;refine aj (aj (ah (ae rfl rfl (Rg.kI aD rfl rfl (bu (v':= .int .i64 ((l.drop p).length:Int)) (by simp[ByteArray.size]) (nK rfl rfl rfl (ad ?_)))))));refine bI rfl (fun c2=>?_) (fun c2=>?_)
  ·refine aU (a8 (aj (ah (ae rfl rfl ?_))));have eG:l.drop p≠[]:=by intro h;rw[h]at c2;simp at c2
   have yc:p<l.length:=by have:=lB.2 eG;rw[cN]at this;omega
   have Uu:=jK eG;refine aP rfl rfl Um (Ez (l:=l.drop p) _ eG (by rw[cN];omega)) (fun r3 w3 hc=>?_);obtain⟨rfl,rfl⟩:=hc;refine ae rfl rfl (bP rfl rfl rfl (bP rfl rfl rfl (ai rfl rfl (ai rfl rfl (ad (aj (ah (ae rfl rfl (ae rfl rfl ?_)))))))));refine eE (A:=RT.int .i64) (hn:=by decide) (M:=M1) au I3 (by decide) rfl rfl hM (gp (by have:=qd (l.drop p);omega)) (.inr ⟨rfl,rfl⟩) (fun O5 O6 lg o9=>?_);replace ho:=ho.bh o9;replace hM:=o9.lt hM;have:=S.size;replace S:=S.ay o9;refine cR (M:=M1) (base:=w0.heap.size) au I3 rfl rfl rfl rfl ho lg (aq _ _) (by simp;have:=fZ l;rw[wT]at this;simp at this;omega) (by simp;have:=fZ l;rw[wT]at this;simp at this;omega) (S.size) (fun O7 Uv acm O8 KZ=>?_);replace lg:=lg.le KZ.le;replace hM:=KZ.lt hM;have:=S.size;replace S:=S.dh KZ ho (bj _);replace ho:=O8;refine ai rfl rfl (ad (ah (ae rfl rfl (ae rfl rfl (Rg.HQ aD rfl rfl rfl (by omega) (bu (v':= .string ⟨(l.drop (p+(dec (l.drop p)).2)).toArray⟩) (by rw[List.drop_drop];simp) (ai rfl rfl (ad ?_))))))));refine⟨rfl,(p+(dec (l.drop p)).2,xs++[((dec (l.drop p)).1:Int)],O7),(.cons rfl (.cons rfl .nil)),?_,?_⟩
   ·refine⟨Uv,hM,S,ho,?_,?_⟩
    ·rw[wT,lT eG,List.drop_drop];simp
    ·have:=Uu.2;rw[cN]at this;dsimp only;omega
   ·have:=Uu.1;have:=Uu.2;rw[cN]at this;dsimp only;omega
  ·refine cM (aj (ah (ae rfl rfl (ai rfl rfl (ad (aJ ?_))))));have e:dW l=xs:=by rw[wT,ji (by simp at c2;omega),nF];simp
   rw[e];have:=fZ l;rw[e]at this;exact aO rfl rfl ⟨ho.close jL S (by omega),S.back⟩
theorem nY {M:aA} {w:World} {x:Int} (h:0≤x∧x<256):RT.u8.V M w x.toNat.toUInt8 (.int .u8 (IntKind.u8.wrap x)):=by
 have e1:IntKind.u8.wrap x=x:=by
  show(if(false&&decide (x%256≥128))=true then x%256-256 else x%256)=x;rw[if_neg (by simp)];omega
 have e2:((x.toNat.toUInt8).toNat:Int)=x:=by
  have:x.toNat.toUInt8.toNat=x.toNat%256:=UInt8.toNat_ofNat' ..;omega
 rw[e1];exact⟨[.int .u8 x],by show _=_;rw[e2],rfl⟩
theorem Uw {r:Int} (h:0≤r∧r<128):Lib.encodeRune r=[r.toNat.toUInt8]:=by rw[Lib.encodeRune,Lib.encodeRuneZ_one h.1 (by omega)];rfl
theorem Ux {r:Int} (h:128≤r∧r<2048):Lib.encodeRune r=[(192+r/64).toNat.toUInt8,(128+r%64).toNat.toUInt8]:=by rw[Lib.encodeRune,Lib.encodeRuneZ_two h.1 (by omega)];rfl
theorem CQ (c:Int):o7 c<55296∨57343<o7 c:=by
 unfold o7
 split
 ·omega
 ·rename_i h
  have h2:Lib.validRune c=true:=by
   cases hv:Lib.validRune c with
   |true=>rfl
   |false=>exact absurd (.inr (.inr hv)) h
  simp only[Lib.validRune,decide_eq_true_eq]at h2;omega
theorem Uy {r:Int} (h:2048≤r∧r<65536) (h2:r<55296∨57343<r):Lib.encodeRune r=[(224+r/4096).toNat.toUInt8,(128+r/64%64).toNat.toUInt8,(128+r%64).toNat.toUInt8]:=by rw[Lib.encodeRune,Lib.encodeRuneZ_three (by omega)];rfl
theorem Uz {r:Int} (h:65536≤r∧r≤1114111):Lib.encodeRune r=[(240+r/262144).toNat.toUInt8,(128+r/4096%64).toNat.toUInt8,(128+r/64%64).toNat.toUInt8,(128+r%64).toNat.toUInt8]:=by rw[Lib.encodeRune,Lib.encodeRuneZ_four h.1 h.2];rfl
theorem pb {c:Int} (h:c<0∨c>1114111∨(55296≤c∧c≤57343)):o7 c=65533:=by
 rw[o7,if_pos];rcases h with h|h|h
 ·exact .inl h
 ·exact .inr (.inl h)
 ·refine .inr (.inr ?_);simp only[Lib.validRune,decide_eq_false_iff_not];omega
theorem na {c:Int} (h: ¬(c<0∨c>1114111∨(55296≤c∧c≤57343))):o7 c=c:=by
 rw[o7,if_neg];rintro(h1|h1|h1)
 ·omega
 ·omega
 ·simp only[Lib.validRune,decide_eq_false_iff_not]at h1;omega
theorem sI {M:aA} {xs:List Int} {v0:Value} (w0:World) (hM:Lt M w0) (hv:((RT.int .i64).sl).V M w0 xs v0) (hl:xs.length≤1000000):
  Spec Tryz.prog 219 #[v0] w0 (fun v w=>v= .string ⟨(iF xs).toArray⟩∧Step M w0 M w aC):=by
 have jL:=hM;refine aX (args:=[_]) (fn:=Tryz.f219) Tryz.func219 rfl (n:=91) Tryz.ntmps219 ?_;have S:Step M w0 M w0 aC:=(an _ _).cc (fun _ h=>h.elim) (fun _ h=>h.elim);refine aj (ah (ai rfl rfl (ad (aj (ah (ai rfl rfl (ad (aj (aj (ah (ai rfl rfl ?_)))))))))));refine ad (a8 ?_);refine dC (σ:=Nat×Value) (fun q=>[(0,v0),(3,q.2),(4,.int .i64 (q.1:Int))]) (fun q w=>∃M',Lt M' w∧Step M w0 M' w aC∧Own RT.u8 5 M' w w0.heap.size q.2 (iF (xs.take q.1))∧((RT.int .i64).sl).V M' w xs v0∧q.1≤xs.length) (fun q=>xs.length-q.1) (0,.slice none 0 0) (.cons rfl (.cons rfl (.cons rfl .nil))) ?_ ?_
 ·exact⟨M,hM,S,ec _ _ _ _ _,hv,bG _⟩
 ·rintro⟨k,u⟩ w ⟨M1,hM,S,ho,hv,hk⟩;dsimp only at ho hk ⊢;refine aj (aj (ah (ae rfl rfl (ae rfl rfl (bU au rfl hv rfl (cf rfl rfl rfl (ad ?_)))))));refine bI rfl (fun c3=>?_) (fun c3=>?_)
  ·refine aU (aj (a8 (aj (ah (ae rfl rfl (ae rfl rfl ?_))))));refine dq (M:=M1) au I3 rfl rfl rfl hv (aq _ _) (by omega) (fun u5 c CR Au=>?_);refine cb (M:=M1) ar rfl rfl Au (aq _ _) (fun in5=>?_);have tk:xs.take (k+1)=xs.take k++[c]:=by rw[cd];simp only[az]at CR;rw[CR];rfl
   have hsr:=BR c;have hsc:=CQ c;refine ai rfl rfl (ad ?_);refine T.wx [(0,v0),(3,u),(4,.int .i64 (k:Int)),(5,.int .i64 (o7 c))] ?_ ?_
   ·refine aj (ah (ae rfl rfl (cf rfl rfl rfl (ae rfl rfl ?_))));refine aG (g:=18) rfl (fun K0=>?_) (fun K0=>?_)
    ·refine ao rfl rfl rfl rfl (ao rfl rfl rfl rfl (aQ rfl rfl rfl (ae rfl rfl (ao rfl rfl rfl rfl (ao rfl rfl rfl rfl (ao rfl rfl rfl rfl (ca rfl rfl rfl (ca rfl rfl rfl (ao rfl rfl rfl rfl (aQ rfl rfl rfl (ad ?_)))))))))));refine lC rfl (ah (ai rfl rfl (ad ?_)));exact⟨rfl,rfl,rfl,.cons rfl (.cons rfl (.cons rfl (.cons (congrArg (fun z=>some (Value.int .i64 z)) (by first|exact(pb (by omega)).symm|exact(na (by omega)).symm)) (.nil))))⟩
    ·refine al rfl rfl (ae rfl rfl (al rfl rfl (nK rfl rfl rfl (ax rfl rfl rfl (ae rfl rfl ?_)))));refine aG (g:=22) rfl (fun UA=>?_) (fun UA=>?_)
     ·refine ao rfl rfl rfl rfl (ao rfl rfl rfl rfl (ao rfl rfl rfl rfl (ca rfl rfl rfl (ca rfl rfl rfl (ao rfl rfl rfl rfl (aQ rfl rfl rfl (ad (lC rfl (ah (ai rfl rfl (ad ?_)))))))))));exact⟨rfl,rfl,rfl,.cons rfl (.cons rfl (.cons rfl (.cons (congrArg (fun z=>some (Value.int .i64 z)) (by first|exact(pb (by omega)).symm|exact(na (by omega)).symm)) (.nil))))⟩
     ·refine al rfl rfl (ae rfl rfl (al rfl rfl (dr rfl rfl rfl (al rfl rfl (ae rfl rfl ?_)))));refine aG (g:=25) rfl (fun UB=>?_) (fun UB=>?_)
      ·refine al rfl rfl (ae rfl rfl (al rfl rfl (eP rfl rfl rfl (al rfl rfl (aQ rfl rfl rfl (ax rfl rfl rfl (ad ?_)))))));refine bI rfl (fun c6=>?_) (fun c6=>?_)
       ·refine ah (ai rfl rfl (ad ?_));exact⟨rfl,rfl,rfl,.cons rfl (.cons rfl (.cons rfl (.cons (congrArg (fun z=>some (Value.int .i64 z)) (by first|exact(pb (by omega)).symm|exact(na (by omega)).symm)) (.nil))))⟩
       ·refine aU ?_;exact⟨rfl,rfl,rfl,.cons rfl (.cons rfl (.cons rfl (.cons (congrArg (fun z=>some (Value.int .i64 z)) (by first|exact(pb (by omega)).symm|exact(na (by omega)).symm)) (.nil))))⟩
      ·refine ao rfl rfl rfl rfl (ao rfl rfl rfl rfl (al rfl rfl (ax rfl rfl rfl (ax rfl rfl rfl (ad (hU rfl (aU ?_)))))));exact⟨rfl,rfl,rfl,.cons rfl (.cons rfl (.cons rfl (.cons (congrArg (fun z=>some (Value.int .i64 z)) (by first|exact(pb (by omega)).symm|exact(na (by omega)).symm)) (.nil))))⟩
   ·refine aj (ah (ae rfl rfl (cf rfl rfl rfl (ad ?_))));refine bI rfl (fun c8=>?_) (fun c8=>?_)
    ·refine ah (ae rfl rfl (ae rfl rfl (tX ar b4 rfl rfl ?_)));refine eE (A:=RT.u8) (hn:=by decide) (M:=M1) bm I5 (by decide) rfl rfl hM (nY (by omega)) (.inr ⟨rfl,rfl⟩) (fun aco O9 EB nc=>?_);replace hv:=hv.le nc.le;replace ho:=ho.bh nc;replace hM:=nc.lt hM;have:=S.size;replace S:=S.ay nc;refine cR (M:=M1) (base:=w0.heap.size) bm I5 rfl rfl rfl rfl ho EB (aq _ _) (by have:=eQ (xs.take k);rw[bS]at this;simp;omega) (by have:=eQ (xs.take k);rw[bS]at this;simp;omega) (S.size) (fun Pb UC UD Pc uj=>?_);replace hv:=hv.le uj.le;replace EB:=EB.le uj.le;replace hM:=uj.lt hM;have:=S.size;replace S:=S.dh uj ho (bj _);replace ho:=Pc;refine ai rfl rfl (ad (ah (ae rfl rfl (bA rfl rfl rfl (by omega) (ai rfl rfl (ad ?_))))));refine⟨rfl,(k+1,Pb),(.cons rfl (.cons rfl (.cons rfl .nil))),?_,?_⟩
     ·exact⟨UC,hM,S,by rw[tk,j6,Uw (by omega)];exact ho,hv,by dsimp only;omega⟩
     ·dsimp only;omega
    ·refine aj (ah (ae rfl rfl (cf rfl rfl rfl (ad ?_))));refine bI rfl (fun UE=>?_) (fun UE=>?_)
     ·refine ah (ae rfl rfl (ae rfl rfl (Rg.rN rfl rfl rfl (by omega) (bA rfl rfl rfl (by omega) (tX ar b4 rfl rfl (ae rfl rfl (Rg.rh rfl rfl rfl (by omega) (bA rfl rfl rfl (by omega) (tX ar b4 rfl rfl ?_)))))))));refine Rg.Od (A:=RT.u8) (hn:=by decide) (M:=M1) (xs:=[(192+o7 c/64).toNat.toUInt8,(128+o7 c%64).toNat.toUInt8]) bm I5 rfl (by decide) rfl ⟨_,_,_,rfl,rfl,rfl,nY (by omega),_,_,_,rfl,rfl,rfl,nY (by omega),rfl⟩ rfl hM (.inr ⟨rfl,rfl⟩) (by decide) (fun Zg Zh Av BT=>?_);replace hv:=hv.le BT.le;replace ho:=ho.bh BT;replace hM:=BT.lt hM;have:=S.size;replace S:=S.ay BT;refine cR (M:=M1) (base:=w0.heap.size) bm I5 rfl rfl rfl rfl ho Av (aq _ _) (by have:=eQ (xs.take k);rw[bS]at this;simp;omega) (by have:=eQ (xs.take k);rw[bS]at this;simp;omega) (S.size) (fun K1 K2 UF HX wU=>?_);replace hv:=hv.le wU.le;replace Av:=Av.le wU.le;replace hM:=wU.lt hM;have:=S.size;replace S:=S.dh wU ho (bj _);replace ho:=HX;refine ai rfl rfl (ad (ah (ae rfl rfl (bA rfl rfl rfl (by omega) (ai rfl rfl (ad ?_))))));refine⟨rfl,(k+1,K1),(.cons rfl (.cons rfl (.cons rfl .nil))),?_,?_⟩
      ·exact⟨K2,hM,S,by rw[tk,j6,Ux (by omega)];exact ho,hv,by dsimp only;omega⟩
      ·dsimp only;omega
     ·refine aj (ah (ae rfl rfl (cf rfl rfl rfl (ad ?_))));refine bI rfl (fun Pd=>?_) (fun Pd=>?_)
      ·refine ah (ae rfl rfl (ae rfl rfl (Rg.rN rfl rfl rfl (by omega) (bA rfl rfl rfl (by omega) (tX ar b4 rfl rfl (ae rfl rfl (Rg.rN rfl rfl rfl (by omega) (Rg.rh rfl rfl rfl (by omega) (bA rfl rfl rfl (by omega) (tX ar b4 rfl rfl (ae rfl rfl ?_)))))))))));refine Rg.rh rfl rfl rfl (by omega) (bA rfl rfl rfl (by omega) (tX ar b4 rfl rfl ?_));refine Rg.Od (A:=RT.u8) (hn:=by decide) (M:=M1) (xs:=[(224+o7 c/4096).toNat.toUInt8,(128+o7 c/64%64).toNat.toUInt8,(128+o7 c%64).toNat.toUInt8]) bm I5 rfl (by decide) rfl ⟨_,_,_,rfl,rfl,rfl,nY (by omega),_,_,_,rfl,rfl,rfl,nY (by omega),_,_,_,rfl,rfl,rfl,nY (by omega),rfl⟩ rfl hM (.inr ⟨rfl,rfl⟩) (by decide) (fun UG UH wV wW=>?_);replace hv:=hv.le wW.le;replace ho:=ho.bh wW;replace hM:=wW.lt hM;have:=S.size;replace S:=S.ay wW;refine cR (M:=M1) (base:=w0.heap.size) bm I5 rfl rfl rfl rfl ho wV (aq _ _) (by have:=eQ (xs.take k);rw[bS]at this;simp;omega) (by have:=eQ (xs.take k);rw[bS]at this;simp;omega) (S.size) (fun K3 K4 UI HY wY=>?_);replace hv:=hv.le wY.le;replace wV:=wV.le wY.le;replace hM:=wY.lt hM;have:=S.size;replace S:=S.dh wY ho (bj _);replace ho:=HY;refine ai rfl rfl (ad (ah (ae rfl rfl (bA rfl rfl rfl (by omega) (ai rfl rfl (ad ?_))))));refine⟨rfl,(k+1,K3),(.cons rfl (.cons rfl (.cons rfl .nil))),?_,?_⟩
       ·exact⟨K4,hM,S,by rw[tk,j6,Uy (by omega) hsc];exact ho,hv,by dsimp only;omega⟩
       ·dsimp only;omega
      ·refine ah (ae rfl rfl (ae rfl rfl (Rg.rN rfl rfl rfl (by omega) (bA rfl rfl rfl (by omega) (tX ar b4 rfl rfl (ae rfl rfl (Rg.rN rfl rfl rfl (by omega) (Rg.rh rfl rfl rfl (by omega) (bA rfl rfl rfl (by omega) (tX ar b4 rfl rfl (ae rfl rfl ?_)))))))))));refine Rg.rN rfl rfl rfl (by omega) (Rg.rh rfl rfl rfl (by omega) (bA rfl rfl rfl (by omega) (tX ar b4 rfl rfl (ae rfl rfl (Rg.rh rfl rfl rfl (by omega) (bA rfl rfl rfl (by omega) (tX ar b4 rfl rfl ?_)))))));refine Rg.Od (A:=RT.u8) (hn:=by decide) (M:=M1) (xs:=[(240+o7 c/262144).toNat.toUInt8,(128+o7 c/4096%64).toNat.toUInt8,(128+o7 c/64%64).toNat.toUInt8,(128+o7 c%64).toNat.toUInt8]) bm I5 rfl (by decide) rfl ⟨_,_,_,rfl,rfl,rfl,nY (by omega),_,_,_,rfl,rfl,rfl,nY (by omega),_,_,_,rfl,rfl,rfl,nY (by omega),_,_,_,rfl,rfl,rfl,nY (by omega),rfl⟩ rfl hM (.inr ⟨rfl,rfl⟩) (by decide) (fun UJ UK wZ xa=>?_);replace hv:=hv.le xa.le;replace ho:=ho.bh xa;replace hM:=xa.lt hM;have:=S.size;replace S:=S.ay xa;refine cR (M:=M1) (base:=w0.heap.size) bm I5 rfl rfl rfl rfl ho wZ (aq _ _) (by have:=eQ (xs.take k);rw[bS]at this;simp;omega) (by have:=eQ (xs.take k);rw[bS]at this;simp;omega) (S.size) (fun K5 K6 UL HZ xb=>?_);replace hv:=hv.le xb.le;replace wZ:=wZ.le xb.le;replace hM:=xb.lt hM;have:=S.size;replace S:=S.dh xb ho (bj _);replace ho:=HZ;refine ai rfl rfl (ad (ah (ae rfl rfl (bA rfl rfl rfl (by omega) (ai rfl rfl (ad ?_))))));refine⟨rfl,(k+1,K5),(.cons rfl (.cons rfl (.cons rfl .nil))),?_,?_⟩
       ·exact⟨K6,hM,S,by rw[tk,j6,Uz (by omega)];exact ho,hv,by dsimp only;omega⟩
       ·dsimp only;omega
  ·refine cM (aj (ah (ae rfl rfl (Rg.b2s (hn:=by decide) (M:=M) bm b4 aD rfl rfl (ho.close jL S (by have:=eQ (xs.take k);rw[bS]at this;omega)) (aq _ _) (ai rfl rfl (ad (aJ ?_)))))));have e:xs.take k=xs:=bp (by omega);rw[e];exact aO rfl rfl ⟨rfl,S.back⟩
end Go.K
namespace Go.K
open Go.Proofs
set_option maxRecDepth 10000
theorem Aw {M:aA} {l:List UInt8} (w0:World) (hM:Lt M w0) (hl:l.length≤1000000):
  Spec Tryz.prog 225 #[.string ⟨l.toArray⟩] w0 (fun v w=>((RT.int .i64).sl).V M w (dW l) v∧Step M w0 M w aC):=by
 have jL:=hM;refine aX (args:=[_]) (fn:=Tryz.f225) Tryz.func225 rfl (n:=17) Tryz.ntmps225 ?_;have S:Step M w0 M w0 aC:=(an _ _).cc (fun _ h=>h.elim) (fun _ h=>h.elim);refine aj (ah (ai rfl rfl (ad (aj (ah (ai rfl rfl (ad (aj (aj (ah (ae rfl rfl ?_)))))))))));refine Rg.Ev M aD rfl rfl (fun EC acp acq acr UM K7=>?_);obtain⟨Jz,ED⟩:∃M',M'=ins M EC:=⟨_,rfl⟩;rw[←ED]at K7;have K8:Jz EC:=by rw[ED];exact .inl rfl
 replace hM:=K7.lt hM;have:=S.size;replace S:=S.ay K7;refine ad (a8 ?_);refine dC (σ:=Nat×List Int×Value) (fun q=>[(3,q.2.2),(7,.pointer (some ⟨EC,0,none⟩))]) (fun q w=>∃M',Lt M' w∧Step M w0 M' w aC∧w.heap[EC]? =some (.stringIter ⟨l.toArray⟩ q.1)∧M' EC∧Own (RT.int .i64) 3 M' w w0.heap.size q.2.2 q.2.1∧dW l=q.2.1++dW (l.drop q.1)∧q.1≤l.length) (fun q=>l.length-q.1) (0,[],.slice none 0 0) (.cons rfl (.cons rfl .nil)) ?_ ?_
 ·exact⟨Jz,hM,S,UM,K8,ec _ _ _ _ _,by simp,by simp⟩
 ·rintro⟨p,xs,u⟩ w ⟨M1,hM,S,g,vq,ho,wT,hp⟩;dsimp only at g ho wT hp ⊢;refine aj (ah ?_);refine Rg.HP (M:=M1) rfl g vq rfl (fun UN acs UO EE=>?_) (fun UN=>?_)
  ·have:=ak g;replace vq:=(EE.mem _ this).2 vq;replace ho:=ho.step EE (fun b hb hk=>ho.dD g (hk▸hb));replace hM:=EE.lt hM;have:=S.size;replace S:=S.trans EE (fun k hk h=>by have h:_=_:=h;subst h;first|(exfalso;omega)|(show _≤_;omega)|exact⟨by first|omega|assumption,(S.mem _ hk).1 ((EE.mem _ (ak g)).1 vq)⟩|exact .inl rfl|exact .inr rfl|exact .inr (.inl rfl)|exact .inr (.inr rfl)|exact rfl);have g_:=UO;clear g;have g:=g_;clear g_;refine bP rfl rfl rfl (ad (aj (lC rfl (aU (a8 (aj (ah (bP rfl rfl rfl (ai rfl rfl (ad (ah ?_)))))))))));refine ae rfl rfl (ae rfl rfl (Rg.rO Tryz.underlying21 ar rfl rfl (by have:=qd (l.drop p);omega) ?_));refine eE (A:=RT.int .i64) (hn:=by decide) (M:=M1) au I3 (by decide) rfl rfl hM (gp (by have:=qd (l.drop p);omega)) (.inr ⟨rfl,rfl⟩) (fun UP acu BU EF=>?_);have:=ak g;replace vq:=(EF.mem _ this).2 vq;replace g:=EF.aI g;replace ho:=ho.bh EF;replace hM:=EF.lt hM;have:=S.size;replace S:=S.ay EF;refine cR (M:=M1) (base:=w0.heap.size) au I3 rfl rfl rfl rfl ho BU (aq _ _) (by simp;have:=fZ l;rw[wT]at this;simp at this;omega) (by simp;have:=fZ l;rw[wT]at this;simp at this;omega) (S.size) (fun UQ UR acv Pe EG=>?_);have:=ak g;replace vq:=(EG.mem _ this).2 vq;replace g:=EG.bF g (fun h=>by first|exact ho.dD g h|exact ho.eL g (by decide) h|(have:=(ho.base _ h).1;omega));replace BU:=BU.le EG.le;replace hM:=EG.lt hM;have:=S.size;replace S:=S.dh EG ho (bj _);replace ho:=Pe;refine ai rfl rfl (ad ?_);have eG:l.drop p≠[]:=by intro h;have:=congrArg List.length h;simp at this;omega
   refine⟨rfl,(p+(dec (l.drop p)).2,xs++[((dec (l.drop p)).1:Int)],UQ),(.cons rfl (.cons rfl .nil)),?_,?_⟩
   ·refine⟨UR,hM,S,g,vq,ho,?_,?_⟩
    ·rw[wT,lT eG,List.drop_drop];simp
    ·have:=(jK eG).2;rw[cN]at this;dsimp only;omega
   ·have:=(jK eG).1;have:=(jK eG).2;rw[cN]at this;dsimp only;omega
  ·refine bP rfl rfl rfl (ad (aj (hU rfl (cM (aj (ah (ae rfl rfl (ai rfl rfl (ad (aJ ?_))))))))));have e:dW l=xs:=by rw[wT,ji (by omega),nF];simp
   rw[e];have:=fZ l;rw[e]at this;exact aO rfl rfl ⟨ho.close jL S (by omega),S.back⟩
def eI (p:List Int×List (List UInt8)) (c:Int):List Int×List (List UInt8):=
 if ez c=true∨lU c=true then(p.1++[eC c],p.2)else if 0<p.1.length then([],p.2++[iF p.1])else([],p.2)
structure EH (M:aA) (w:World) (B bo bs:Nat) (p:List Int×List (List UInt8)):Prop where
 a:∃u,w.heap[bo]? =some (.cells #[u] 32 (0,0))∧Own (RT.int .i64) 3 M w B u p.1
 b:∃u,w.heap[bs]? =some (.cells #[u] 55 (0,0))∧Own RT.str 9 M w B u p.2
 m:M bo∧M bs∧B≤bo∧B≤bs
theorem nf {c:Int} (h:ez c=true∨lU c=true):0≤c∧c≤1114111:=by
 simp only[ez,lU,decide_eq_true_eq]at h;omega
theorem sJ {M:aA} {B bo bs:Nat} {p:List Int×List (List UInt8)} (w0:World) (hM:Lt M w0) (c:Int) (ht:EH M w0 B bo bs p) (hl:p.1.length≤1000000∧p.2.length≤1000000):
  Spec Tryz.prog 220 #[.int .i64 c,.pointer (some ⟨bo,0,none⟩),.pointer (some ⟨bs,0,none⟩)] w0 (fun v w=>∃M',Lt M' w∧EH M' w B bo bs (eI p c)∧Step M w0 M' w (jC M B)):=by
 obtain⟨⟨uo,go,ho⟩,⟨us,gs,hs⟩,fk,fU,NH,NI⟩:=ht;obtain⟨own,out⟩:=p;dsimp only at ho hs hl ⊢;have eG:bo≠bs:=fun e=>by subst e;rw[go]at gs;cases gs
 refine aX (args:=[_,_,_]) (fn:=Tryz.f220) Tryz.func220 rfl (n:=23) Tryz.ntmps220 ?_;have S:Step M w0 M w0 (jC M B):=(an _ _).cc (fun _ h=>h.elim) (fun _ h=>h.2);refine aj (aj (ah (ae rfl rfl ?_)));refine aP rfl rfl Ug (yt _ _) (fun r wc hc=>?_);obtain⟨rfl,rfl⟩:=hc;refine bu (v':= .bool (decide (ez c=true))) (by cases ez c<;>rfl) (ae rfl rfl ?_);refine aG (g:=6) rfl (fun US=>?_) (fun US=>?_)
 ·refine ao rfl rfl rfl rfl (ao rfl rfl rfl rfl (aQ rfl rfl rfl (ad (lC rfl (aj ?_)))));apply T.nV 2 [0] 2 aC mixed rfl rfl rfl rfl;intro DH EI;have jg:=EI M;have:=ak go;replace fk:=(jg.mem _ this).2 fk;replace go:=jg.aI go;have:=ak gs;replace fU:=(jg.mem _ this).2 fU;replace gs:=jg.aI gs;replace ho:=ho.bh jg;replace hs:=hs.bh jg;replace hM:=jg.lt hM;have:=S.size;replace S:=S.ay jg;refine aE au rfl rfl rfl (by first|assumption|exact bV jg (by assumption)) rfl ?_;refine ad ⟨rfl,rfl,rfl,?_⟩;refine ae rfl rfl ?_;refine ad ⟨rfl,rfl,rfl,?_⟩;refine fy ?_;refine⟨iA ⟨fJ rfl (by assumption) (by first|assumption|exact fun h=>h|(intro h;have h:_=_:=h;omega)),trivial⟩,?_⟩;have kp:=km aC DH;have Ax:ez c=true∨lU c=true:=by first|exact .inl (by assumption)|exact .inr (by assumption)
  refine aP rfl rfl OW (vh c _ (nf Ax)) (fun r wc hc=>?_);obtain⟨rfl,rfl⟩:=hc;refine(fun(kp:eg _ _ _)=>ad ⟨rfl,rfl,fun _=>kp,?_⟩) (by first|exact kp|exact kp.pX (by assumption)|exact kp.goN (by assumption)|exact kp.go (by assumption) (fun _ _ h=>by first|exact h|exact h.elim));refine eE (A:=RT.int .i64) (hn:=by decide) (M:=M) au I3 (by decide) rfl rfl hM (gp (by have:=nf Ax;unfold eC;split<;>omega)) (.inr ⟨rfl,rfl⟩) (fun EJ xc fA s1_3=>?_);have:=ak go;replace fk:=(s1_3.mem _ this).2 fk;replace go:=s1_3.aI go;have:=ak gs;replace fU:=(s1_3.mem _ this).2 fU;replace gs:=s1_3.aI gs;replace ho:=ho.bh s1_3;replace hs:=hs.bh s1_3;replace hM:=s1_3.lt hM;have:=S.size;replace S:=S.ay s1_3;refine(fun(kp:eg _ _ _)=>ad ⟨rfl,rfl,fun _=>kp,?_⟩) (by first|exact kp|exact kp.pX (by assumption)|exact kp.goN (by assumption)|exact kp.go (by assumption) (fun _ _ h=>by first|exact h|exact h.elim));refine cR (M:=M) (base:=B) au I3 rfl rfl rfl rfl ho fA (aq _ _) (by simp;omega) (by simp;omega) (by have:=ak go;omega) (fun K9 EK H0 EL gL=>?_);have:=ak go;replace fk:=(gL.mem _ this).2 fk;replace go:=gL.bF go (fun h=>by first|exact ho.dD go h|exact ho.eL go (by decide) h|(have:=(ho.base _ h).1;omega));have:=ak gs;replace fU:=(gL.mem _ this).2 fU;replace gs:=gL.bF gs (fun h=>by first|exact ho.dD gs h|exact ho.eL gs (by decide) h|(have:=(ho.base _ h).1;omega));replace fA:=fA.le gL.le;replace hs:=hs.step gL (fun b h1 h2=>hs.ir ho (by decide) h1 h2);replace hM:=gL.lt hM;have:=S.size;replace S:=S.trans gL (fun b hb h=>⟨(ho.base b h).1,(S.mem b hb).1 (ho.mut_ b h)⟩);replace ho:=EL;refine ad ⟨rfl,rfl,fun h=>absurd rfl h,?_⟩;refine bQ (M:=EK) nM rfl rfl go rfl ((by obtain⟨_,_,he,_⟩:=ho.isSlice;rw[he];rfl)) fk (fun La qg lV=>?_);change La.heap[_]? =some (Obj.cells #[K9] _ _)at qg
  have:=ak go;replace fk:=(lV.mem _ this).2 fk;have:=ak gs;replace fU:=(lV.mem _ this).2 fU;replace gs:=lV.bF gs (fun hk=>by have hk:_=_:=hk;omega);replace fA:=fA.le lV.le;replace ho:=ho.step lV (fun b hb hk=>by have hk:b=_:=hk;subst hk;first|exact absurd hb (ho.eL go (by decide))|exact absurd hb (ho.eL gs (by decide)));replace hs:=hs.step lV (fun b hb hk=>by have hk:b=_:=hk;subst hk;first|exact absurd hb (hs.eL go (by decide))|exact absurd hb (hs.eL gs (by decide)));replace hM:=lV.lt hM;have:=S.size;replace S:=S.trans lV (fun k hk h=>by have h:_=_:=h;subst h;first|(exfalso;omega)|(show _≤_;omega)|exact⟨by first|omega|assumption,(S.mem _ hk).1 ((lV.mem _ (ak go)).1 fk)⟩|exact .inl rfl|exact .inr rfl|exact .inr (.inl rfl)|exact .inr (.inr rfl)|exact rfl);have EM:=qg;clear go;have go:=EM;clear EM;refine ad ⟨rfl,rfl,fun h=>absurd rfl h,?_⟩;refine qA (aJ ?_);rw[show eI (own,out) c=(own++[eC c],out)from if_pos Ax];exact BE rfl ⟨EK,hM,⟨⟨_,go,ho⟩,⟨_,gs,hs⟩,fk,fU,NH,NI⟩,S⟩
 ·refine al rfl rfl (ae rfl rfl (al rfl rfl ?_));refine aP rfl rfl Uh (Am _ _) (fun r wc hc=>?_);obtain⟨rfl,rfl⟩:=hc;refine bu (v':= .bool (decide (lU c=true))) (by cases lU c<;>rfl) (ax rfl rfl rfl (ad ?_));refine bI rfl (fun c0=>?_) (fun c0=>?_)
  ·refine aj ?_;apply T.nV 2 [0] 2 aC mixed rfl rfl rfl rfl;intro DH EI;have jg:=EI M;have:=ak go;replace fk:=(jg.mem _ this).2 fk;replace go:=jg.aI go;have:=ak gs;replace fU:=(jg.mem _ this).2 fU;replace gs:=jg.aI gs;replace ho:=ho.bh jg;replace hs:=hs.bh jg;replace hM:=jg.lt hM;have:=S.size;replace S:=S.ay jg;refine aE au rfl rfl rfl (by first|assumption|exact bV jg (by assumption)) rfl ?_;refine ad ⟨rfl,rfl,rfl,?_⟩;refine ae rfl rfl ?_;refine ad ⟨rfl,rfl,rfl,?_⟩;refine fy ?_;refine⟨iA ⟨fJ rfl (by assumption) (by first|assumption|exact fun h=>h|(intro h;have h:_=_:=h;omega)),trivial⟩,?_⟩;have kp:=km aC DH;have Ax:ez c=true∨lU c=true:=by first|exact .inl (by assumption)|exact .inr (by assumption)
   refine aP rfl rfl OW (vh c _ (nf Ax)) (fun r wc hc=>?_);obtain⟨rfl,rfl⟩:=hc;refine(fun(kp:eg _ _ _)=>ad ⟨rfl,rfl,fun _=>kp,?_⟩) (by first|exact kp|exact kp.pX (by assumption)|exact kp.goN (by assumption)|exact kp.go (by assumption) (fun _ _ h=>by first|exact h|exact h.elim));refine eE (A:=RT.int .i64) (hn:=by decide) (M:=M) au I3 (by decide) rfl rfl hM (gp (by have:=nf Ax;unfold eC;split<;>omega)) (.inr ⟨rfl,rfl⟩) (fun EJ xc fA s1_3=>?_);have:=ak go;replace fk:=(s1_3.mem _ this).2 fk;replace go:=s1_3.aI go;have:=ak gs;replace fU:=(s1_3.mem _ this).2 fU;replace gs:=s1_3.aI gs;replace ho:=ho.bh s1_3;replace hs:=hs.bh s1_3;replace hM:=s1_3.lt hM;have:=S.size;replace S:=S.ay s1_3;refine(fun(kp:eg _ _ _)=>ad ⟨rfl,rfl,fun _=>kp,?_⟩) (by first|exact kp|exact kp.pX (by assumption)|exact kp.goN (by assumption)|exact kp.go (by assumption) (fun _ _ h=>by first|exact h|exact h.elim));refine cR (M:=M) (base:=B) au I3 rfl rfl rfl rfl ho fA (aq _ _) (by simp;omega) (by simp;omega) (by have:=ak go;omega) (fun K9 EK H0 EL gL=>?_);have:=ak go;replace fk:=(gL.mem _ this).2 fk;replace go:=gL.bF go (fun h=>by first|exact ho.dD go h|exact ho.eL go (by decide) h|(have:=(ho.base _ h).1;omega));have:=ak gs;replace fU:=(gL.mem _ this).2 fU;replace gs:=gL.bF gs (fun h=>by first|exact ho.dD gs h|exact ho.eL gs (by decide) h|(have:=(ho.base _ h).1;omega));replace fA:=fA.le gL.le;replace hs:=hs.step gL (fun b h1 h2=>hs.ir ho (by decide) h1 h2);replace hM:=gL.lt hM;have:=S.size;replace S:=S.trans gL (fun b hb h=>⟨(ho.base b h).1,(S.mem b hb).1 (ho.mut_ b h)⟩);replace ho:=EL;refine ad ⟨rfl,rfl,fun h=>absurd rfl h,?_⟩;refine bQ (M:=EK) nM rfl rfl go rfl ((by obtain⟨_,_,he,_⟩:=ho.isSlice;rw[he];rfl)) fk (fun La qg lV=>?_);change La.heap[_]? =some (Obj.cells #[K9] _ _)at qg
   have:=ak go;replace fk:=(lV.mem _ this).2 fk;have:=ak gs;replace fU:=(lV.mem _ this).2 fU;replace gs:=lV.bF gs (fun hk=>by have hk:_=_:=hk;omega);replace fA:=fA.le lV.le;replace ho:=ho.step lV (fun b hb hk=>by have hk:b=_:=hk;subst hk;first|exact absurd hb (ho.eL go (by decide))|exact absurd hb (ho.eL gs (by decide)));replace hs:=hs.step lV (fun b hb hk=>by have hk:b=_:=hk;subst hk;first|exact absurd hb (hs.eL go (by decide))|exact absurd hb (hs.eL gs (by decide)));replace hM:=lV.lt hM;have:=S.size;replace S:=S.trans lV (fun k hk h=>by have h:_=_:=h;subst h;first|(exfalso;omega)|(show _≤_;omega)|exact⟨by first|omega|assumption,(S.mem _ hk).1 ((lV.mem _ (ak go)).1 fk)⟩|exact .inl rfl|exact .inr rfl|exact .inr (.inl rfl)|exact .inr (.inr rfl)|exact rfl);have EM:=qg;clear go;have go:=EM;clear EM;refine ad ⟨rfl,rfl,fun h=>absurd rfl h,?_⟩;refine qA (aJ ?_);rw[show eI (own,out) c=(own++[eC c],out)from if_pos Ax];exact BE rfl ⟨EK,hM,⟨⟨_,go,ho⟩,⟨_,gs,hs⟩,fk,fU,NH,NI⟩,S⟩
  ·refine aU (aj (aj (ah (aE au rfl rfl rfl (by assumption) rfl (gC au rfl ho rfl (nK rfl rfl rfl (ad ?_)))))));refine bI rfl (fun c2=>?_) (fun c2=>?_)
   ·apply T.nV 2 [0] 2 aC mixed rfl rfl rfl rfl;intro Pf Pg;have mA:=Pg M;have:=ak go;replace fk:=(mA.mem _ this).2 fk;replace go:=mA.aI go;have:=ak gs;replace fU:=(mA.mem _ this).2 fU;replace gs:=mA.aI gs;replace ho:=ho.bh mA;replace hs:=hs.bh mA;replace hM:=mA.lt hM;have:=S.size;replace S:=S.ay mA;refine aE bg rfl rfl rfl (by first|assumption|exact bV mA (by assumption)) rfl ?_;refine ad ⟨rfl,rfl,rfl,?_⟩;refine aE au rfl rfl rfl (by first|assumption|exact bV mA (by assumption)) rfl ?_;refine ad ⟨rfl,rfl,rfl,?_⟩;refine fy ?_;refine⟨iA ⟨fJ rfl (by assumption) (by first|assumption|exact fun h=>h|(intro h;have h:_=_:=h;omega)),trivial⟩,?_⟩;have kp:=km aC Pf;refine aP rfl rfl Ui (CP (M:=rm M uo) _ (fun b hb=>hM b hb.1) (ho.view (by omega)) (by omega)) (fun r3 w3 hc=>?_);obtain⟨rfl,s3⟩:=hc;replace s3:=s3.any M;have:=ak go;replace fk:=(s3.mem _ this).2 fk;replace go:=s3.aI go;have:=ak gs;replace fU:=(s3.mem _ this).2 fU;replace gs:=s3.aI gs;replace ho:=ho.bh s3;replace hs:=hs.bh s3;replace hM:=s3.lt hM;have:=S.size;replace S:=S.ay s3;refine(fun(kp:eg _ _ _)=>ad ⟨rfl,rfl,fun _=>kp,?_⟩) (by first|exact kp|exact kp.pX (by assumption)|exact kp.goN (by assumption)|exact kp.go (by assumption) (fun _ _ h=>by first|exact h|exact h.elim));refine eE (A:=RT.str) (hn:=by decide) (M:=M) bg I9 (by decide) rfl rfl hM (jQ.2 ⟨rfl,by have:=eQ own;omega⟩) (.inr ⟨rfl,rfl⟩) (fun acw acx sK yz=>?_);have:=ak go;replace fk:=(yz.mem _ this).2 fk;replace go:=yz.aI go;have:=ak gs;replace fU:=(yz.mem _ this).2 fU;replace gs:=yz.aI gs;replace ho:=ho.bh yz;replace hs:=hs.bh yz;replace hM:=yz.lt hM;have:=S.size;replace S:=S.ay yz;refine(fun(kp:eg _ _ _)=>ad ⟨rfl,rfl,fun _=>kp,?_⟩) (by first|exact kp|exact kp.pX (by assumption)|exact kp.goN (by assumption)|exact kp.go (by assumption) (fun _ _ h=>by first|exact h|exact h.elim))
    refine cR (M:=M) (base:=B) bg I9 rfl rfl rfl rfl hs sK (aq _ _) (by simp;omega) (by simp;omega) (by have:=ak go;omega) (fun UT Ph acy Pj yA=>?_);have:=ak go;replace fk:=(yA.mem _ this).2 fk;replace go:=yA.bF go (fun h=>by first|exact hs.dD go h|exact hs.eL go (by decide) h|(have:=(hs.base _ h).1;omega));have:=ak gs;replace fU:=(yA.mem _ this).2 fU;replace gs:=yA.bF gs (fun h=>by first|exact hs.dD gs h|exact hs.eL gs (by decide) h|(have:=(hs.base _ h).1;omega));replace sK:=sK.le yA.le;replace ho:=ho.step yA (fun b h1 h2=>ho.ir hs (by decide) h1 h2);replace hM:=yA.lt hM;have:=S.size;replace S:=S.trans yA (fun b hb h=>⟨(hs.base b h).1,(S.mem b hb).1 (hs.mut_ b h)⟩);replace hs:=Pj;refine ad ⟨rfl,rfl,fun h=>absurd rfl h,?_⟩;refine bQ (M:=Ph) Hj rfl rfl gs rfl ((by obtain⟨_,_,he,_⟩:=hs.isSlice;rw[he];rfl)) fU (fun UU Pk xd=>?_);change UU.heap[_]? =some (Obj.cells #[UT] _ _)at Pk;have:=ak go;replace fk:=(xd.mem _ this).2 fk;replace go:=xd.bF go (fun hk=>by have hk:_=_:=hk;omega);have:=ak gs;replace fU:=(xd.mem _ this).2 fU;replace sK:=sK.le xd.le;replace ho:=ho.step xd (fun b hb hk=>by have hk:b=_:=hk;subst hk;first|exact absurd hb (ho.eL go (by decide))|exact absurd hb (ho.eL gs (by decide)));replace hs:=hs.step xd (fun b hb hk=>by have hk:b=_:=hk;subst hk;first|exact absurd hb (hs.eL go (by decide))|exact absurd hb (hs.eL gs (by decide)));replace hM:=xd.lt hM;have:=S.size;replace S:=S.trans xd (fun k hk h=>by have h:_=_:=h;subst h;first|(exfalso;omega)|(show _≤_;omega)|exact⟨by first|omega|assumption,(S.mem _ hk).1 ((xd.mem _ (ak gs)).1 fU)⟩|exact .inl rfl|exact .inr rfl|exact .inr (.inl rfl)|exact .inr (.inr rfl)|exact rfl);have Zi:=Pk;clear gs;have gs:=Zi;clear Zi;refine ad ⟨rfl,rfl,fun h=>absurd rfl h,?_⟩;refine qA (ah ?_);refine bQ (M:=Ph) nM rfl rfl go rfl (rfl) fk (fun EN yB jq=>?_)
    change EN.heap[_]? =some (Obj.cells #[.slice none 0 0] _ _)at yB;have:=ak go;replace fk:=(jq.mem _ this).2 fk;have:=ak gs;replace fU:=(jq.mem _ this).2 fU;replace gs:=jq.bF gs (fun hk=>by have hk:_=_:=hk;omega);replace sK:=sK.le jq.le;replace ho:=ho.step jq (fun b hb hk=>by have hk:b=_:=hk;subst hk;first|exact absurd hb (ho.eL go (by decide))|exact absurd hb (ho.eL gs (by decide)));replace hs:=hs.step jq (fun b hb hk=>by have hk:b=_:=hk;subst hk;first|exact absurd hb (hs.eL go (by decide))|exact absurd hb (hs.eL gs (by decide)));replace hM:=jq.lt hM;have:=S.size;replace S:=S.trans jq (fun k hk h=>by have h:_=_:=h;subst h;first|(exfalso;omega)|(show _≤_;omega)|exact⟨by first|omega|assumption,(S.mem _ hk).1 ((jq.mem _ (ak go)).1 fk)⟩|exact .inl rfl|exact .inr rfl|exact .inr (.inl rfl)|exact .inr (.inr rfl)|exact rfl);have EM:=yB;clear go;have go:=EM;clear EM;refine ad ?_
    first|refine fC.nil ?_|simp+decide only[rJ,kG,if_true,if_false]|skip
    have NJ: ¬(ez c=true∨lU c=true):=by rintro(h|h)<;>exact absurd h (by assumption)
    first
    |rw[show eI (own,out) c=([],out++[iF own])from(if_neg NJ).trans (if_pos (by show 0<own.length;omega))]
     exact gJ rfl ⟨_,hM,⟨⟨_,go,ec _ _ _ _ _⟩,⟨_,gs,hs⟩,fk,fU,NH,NI⟩,S⟩
    |rw[show eI (own,out) c=([],out)from(if_neg NJ).trans (if_neg (by show¬0<own.length;omega))]
     exact gJ rfl ⟨_,hM,⟨⟨_,go,ec _ _ _ _ _⟩,⟨_,gs,hs⟩,fk,fU,NH,NI⟩,S⟩
   ·refine aU (ah ?_);refine bQ (M:=M) nM rfl rfl go rfl (rfl) fk (fun EN yB jq=>?_);change EN.heap[_]? =some (Obj.cells #[.slice none 0 0] _ _)at yB;have:=ak go;replace fk:=(jq.mem _ this).2 fk;have:=ak gs;replace fU:=(jq.mem _ this).2 fU;replace gs:=jq.bF gs (fun hk=>by have hk:_=_:=hk;omega);replace ho:=ho.step jq (fun b hb hk=>by have hk:b=_:=hk;subst hk;first|exact absurd hb (ho.eL go (by decide))|exact absurd hb (ho.eL gs (by decide)));replace hs:=hs.step jq (fun b hb hk=>by have hk:b=_:=hk;subst hk;first|exact absurd hb (hs.eL go (by decide))|exact absurd hb (hs.eL gs (by decide)));replace hM:=jq.lt hM;have:=S.size;replace S:=S.trans jq (fun k hk h=>by have h:_=_:=h;subst h;first|(exfalso;omega)|(show _≤_;omega)|exact⟨by first|omega|assumption,(S.mem _ hk).1 ((jq.mem _ (ak go)).1 fk)⟩|exact .inl rfl|exact .inr rfl|exact .inr (.inl rfl)|exact .inr (.inr rfl)|exact rfl);have EM:=yB;clear go;have go:=EM;clear EM;refine ad ?_
    first|refine fC.nil ?_|simp+decide only[rJ,kG,if_true,if_false]|skip
    have NJ: ¬(ez c=true∨lU c=true):=by rintro(h|h)<;>exact absurd h (by assumption)
    first
    |rw[show eI (own,out) c=([],out++[iF own])from(if_neg NJ).trans (if_pos (by show 0<own.length;omega))]
     exact gJ rfl ⟨_,hM,⟨⟨_,go,ec _ _ _ _ _⟩,⟨_,gs,hs⟩,fk,fU,NH,NI⟩,S⟩
    |rw[show eI (own,out) c=([],out)from(if_neg NJ).trans (if_neg (by show¬0<own.length;omega))]
     exact gJ rfl ⟨_,hM,⟨⟨_,go,ec _ _ _ _ _⟩,⟨_,gs,hs⟩,fk,fU,NH,NI⟩,S⟩
theorem lh (l:List Int):∀p,(l.foldl eI p).1.length≤p.1.length+l.length∧(l.foldl eI p).2.length≤p.2.length+l.length:=by
 induction l with
 |nil=>intro p;simp
 |cons c l ih=>
  intro p;have:=ih (eI p c)
  have h1:(eI p c).1.length≤p.1.length+1∧(eI p c).2.length≤p.2.length+1:=by
   unfold eI
   split
   ·simp
   ·split<;>simp
  simp only[List.foldl_cons,cr];omega
def words (l:List UInt8):List (List UInt8):=((dW l++[32]).foldl eI ([],[])).2
theorem nG (l:List UInt8):(words l).length≤l.length+1:=by
 have h:=(lh (dW l++[32]) ([],[])).2;have h2:=fZ l;rw[bL]at h;have h3:([]:List (List UInt8)).length=0:=rfl;have h4: [(32:Int)].length=1:=rfl;unfold words;simp only[h3,h4]at h;omega
theorem sL {M:aA} {l:List UInt8} (w0:World) (hM:Lt M w0) (hl:l.length≤900000):
  Spec Tryz.prog 192 #[.string ⟨l.toArray⟩] w0 (fun v w=>(RT.str.sl).V M w (words l) v∧Step M w0 M w aC):=by
 have jL:=hM;refine aX (args:=[_]) (fn:=Tryz.f192) Tryz.func192 rfl (n:=23) Tryz.ntmps192 ?_;have S:Step M w0 M w0 aC:=(an _ _).cc (fun _ h=>h.elim) (fun _ h=>h.elim);refine aj (ah (ai rfl rfl (ad (aj (ah ?_)))));refine eW M Hj rfl (fun mB CS Pl Pm jr nN=>?_);obtain⟨ng,nh⟩:∃M',M'=ins M mB:=⟨_,rfl⟩;rw[←nh]at nN;have gM:ng mB:=by rw[nh];exact .inl rfl
 change CS.heap[mB]? =some (.cells #[.slice none 0 0] _ _)at jr;replace hM:=nN.lt hM;have:=S.size;replace S:=S.ay nN;refine ad (aj (ah ?_));refine eW ng nM rfl (fun eX H2 UW UX yC sM=>?_);obtain⟨EO,sN⟩:∃M',M'=ins ng eX:=⟨_,rfl⟩;rw[←sN]at sM;have sO:EO eX:=by rw[sN];exact .inl rfl
 change H2.heap[eX]? =some (.cells #[.slice none 0 0] _ _)at yC;have:=ak jr;replace gM:=(sM.mem _ this).2 gM;replace jr:=sM.aI jr;replace hM:=sM.lt hM;have:=S.size;replace S:=S.ay sM;refine ad (aj (ah (hY (xs:=[]) (ys:=[.tmp 4,.tmp 3]) rfl rfl rfl (ai rfl rfl (ad (aj (aj (ah (ae rfl rfl ?_)))))))));refine aP rfl rfl Uj (Aw _ hM (by omega)) (fun v4 w4 hc=>?_);obtain⟨wT,s4⟩:=hc;have:=ak jr;replace gM:=(s4.mem _ this).2 gM;replace jr:=s4.aI jr;have:=ak yC;replace sO:=(s4.mem _ this).2 sO;replace yC:=s4.aI yC;replace hM:=s4.lt hM;have:=S.size;replace S:=S.ay s4;refine bU au rfl wT rfl (ae rfl rfl (ad (a8 ?_)));refine dC (σ:=Nat) (fun k=>[(3,.pointer (some ⟨mB,0,none⟩)),(5,.func (.func 220) #[] #[.pointer (some ⟨eX,0,none⟩),.pointer (some ⟨mB,0,none⟩)]),(10,v4),(11,.int .i64 ((dW l).length:Int)),(12,.int .i64 (k:Int))]) (fun k w=>∃M',Lt M' w∧Step M w0 M' w aC∧EH M' w w0.heap.size eX mB (((dW l).take k).foldl eI ([],[]))∧((RT.int .i64).sl).V M' w (dW l) v4∧k≤(dW l).length) (fun k=>(dW l).length-k) 0 (.cons rfl (.cons rfl (.cons rfl (.cons rfl (.cons rfl .nil))))) ?_ ?_
 ·exact⟨_,hM,S,⟨⟨_,yC,ec _ _ _ _ _⟩,⟨_,jr,ec _ _ _ _ _⟩,sO,gM,by omega,by omega⟩,wT,bG _⟩
 ·rintro k w ⟨M1,hM,S,ht,wT,hk⟩;refine aj (ah (cf rfl rfl rfl (ad (aj ?_))));refine bI rfl (fun c5=>?_) (fun c5=>?_)
  ·refine aU (aj (a8 (aj (ah ?_))));refine dq (M:=M1) au I3 rfl rfl rfl wT (aq _ _) (by omega) (fun u6 c DI Lb=>?_);refine cb (M:=M1) ar rfl rfl Lb (aq _ _) (fun in6=>?_);refine ai rfl rfl (ad (ah (ae rfl rfl (ae rfl rfl ?_))));have oz:=fZ l;have DD:=lh ((dW l).take k) ([],[]);rw[bS]at DD;refine Rg.nT (first:=[]) (captured:=[.pointer (some ⟨eX,0,none⟩),.pointer (some ⟨mB,0,none⟩)]) rfl rfl rfl OV (sJ (B:=w0.heap.size) _ hM c ht (by simp at DD;omega)) (fun r7 w7 hc=>?_);obtain⟨M2,JA,H3,s7⟩:=hc;have tk:(dW l).take (k+1)=(dW l).take k++[c]:=by rw[cd];simp only[az]at DI;rw[DI];rfl
   refine ad (ah (bA rfl rfl rfl (by omega) (ae rfl rfl (ad ?_))));refine⟨rfl,k+1,(.cons rfl (.cons rfl (.cons rfl (.cons rfl (.cons rfl .nil))))),?_,?_⟩
   ·exact⟨M2,JA,S.jS s7 (bj _),by rw[tk,ou];exact H3,wT.le s7.le,by omega⟩
   ·omega
  ·refine cM (aj (ah (ae rfl rfl ?_)));have oz:=fZ l;have DD:=lh ((dW l).take k) ([],[]);rw[bS]at DD;refine Rg.nT (first:=[]) (captured:=[.pointer (some ⟨eX,0,none⟩),.pointer (some ⟨mB,0,none⟩)]) rfl rfl rfl OV (sJ (B:=w0.heap.size) _ hM 32 ht (by simp at DD;omega)) (fun r9 w9 hc=>?_);obtain⟨M2,JA,H3,s9⟩:=hc;have e9:eI (((dW l).take k).foldl eI ([],[])) 32=(dW l++[32]).foldl eI ([],[]):=by rw[ou,bp (by omega)];rfl
   rw[e9]at H3;obtain⟨_,⟨us,gs,hs⟩,_⟩:=H3;replace S:=S.jS s9 (bj _);refine ad (aj (ah (aE bg rfl rfl rfl gs rfl (ai rfl rfl (ad (aJ ?_))))));exact aO rfl rfl ⟨Own.close jL S hs (by have:=nG l;omega),S.back⟩
end Go.K
namespace Go.K
open Go.Proofs
set_option maxRecDepth 10000
theorem EP {p:List Int×List (List UInt8)} {c:Int} (h:rA c=true):eI p c=(p.1++[eC c],p.2):=if_pos (by simpa[rA]using h)
theorem nH {p:List Int×List (List UInt8)} {c:Int} (h:rA c=false):eI p c=if 0<p.1.length then([],p.2++[iF p.1])else([],p.2):=if_neg (by simpa[rA]using h)
def DJ (sg:List Int) (i:Nat) (ws:List (List UInt8)):Prop:=(i≤sg.length∧(sg.take i).foldl eI ([],[])=([],ws))∨(i=sg.length+1∧((sg++[32]).foldl eI ([],[])).2=ws)
theorem ER {c:Int} (h:rA c=true):0≤c∧c≤1114111:=nf (by simpa[rA]using h)
theorem Pn:rA 32=false:=by decide
theorem qh {sg:List Int} {i:Nat} {c:Int} (h:sg[i]? =some c) (p:List Int×List (List UInt8)):(sg.take (i+1)).foldl eI p=eI ((sg.take i).foldl eI p) c:=by
 rw[cd,h,cZ,ou];rfl
theorem DJ.skip {sg:List Int} {i:Nat} {ws:List (List UInt8)} {c:Int} (h:DJ sg i ws) (hc:sg[i]? =some c) (hi:rA c=false):DJ sg (i+1) ws:=by
 have dB:=(av.1 hc).1;rcases h with⟨_,h⟩|⟨h,_⟩
 ·exact .inl ⟨dB,by rw[qh hc,h,nH hi];rfl⟩
 ·omega
theorem DJ.word {sg:List Int} {j:Nat} {own:List Int} {ws:List (List UInt8)} (h:(sg.take j).foldl eI ([],[])=(own,ws)) (ho:0<own.length) (hj:j≤sg.length) (hn:∀c,sg[j]? =some c→rA c=false):DJ sg (j+1) (ws++[iF own]):=by
 rcases jj hj with e|dB
 ·refine .inr ⟨by omega,?_⟩;rw[e,List.take_length]at h;rw[ou,h];show(eI (own,ws) 32).2=_;rw[nH Pn,if_pos ho]
 ·have hc:sg[j]? =some sg[j]:=aL dB;exact .inl ⟨dB,by rw[qh hc,h,nH (hn _ hc),if_pos ho]⟩
theorem DJ.done {sg:List Int} {i:Nat} {ws:List (List UInt8)} (h:DJ sg i ws) (hi:sg.length≤i):((sg++[32]).foldl eI ([],[])).2=ws:=by
 rcases h with⟨h1,h⟩|⟨_,h⟩
 ·rw[bp (by omega)]at h;rw[ou,h];show(eI ([],ws) 32).2=_;rw[nH Pn];rfl
 ·exact h
theorem DJ.len {sg:List Int} {i:Nat} {ws:List (List UInt8)} (h:DJ sg i ws):ws.length≤sg.length+1:=by
 rcases h with⟨_,h⟩|⟨_,h⟩
 ·have:=(lh (sg.take i) ([],[])).2;rw[h,bS]at this;simp only[gO]at this;have e:(([]:List Int),([]:List (List UInt8))).2.length=0:=rfl;omega
 ·have:=(lh (sg++[32]) ([],[])).2;rw[h,bL]at this;have e:(([]:List Int),([]:List (List UInt8))).2.length=0:=rfl;have e2: [(32:Int)].length=1:=rfl;omega
theorem fj {sg:List Int} {j:Nat} {own:List Int} {ws:List (List UInt8)} (h:(sg.take j).foldl eI ([],[])=(own,ws)):own.length≤sg.length∧ws.length≤sg.length:=by
 have:=lh (sg.take j) ([],[]);rw[h,bS]at this;simp only[gO]at this;have e:(([]:List Int),([]:List (List UInt8))).1.length=0:=rfl;have e2:(([]:List Int),([]:List (List UInt8))).2.length=0:=rfl;omega
theorem yD {M:aA} {l:List UInt8} (w0:World) (hM:Lt M w0) (hl:l.length≤900000):
  Spec Tryz.prog 191 #[.string ⟨l.toArray⟩] w0 (fun v w=>(RT.str.sl).V M w (words l) v∧Step M w0 M w aC):=by
 have jL:=hM;have oz:=fZ l;refine aX (args:=[_]) (fn:=Tryz.f191) Tryz.func191 rfl (n:=50) Tryz.ntmps191 ?_;have S:Step M w0 M w0 aC:=(an _ _).cc (fun _ h=>h.elim) (fun _ h=>h.elim);refine aj (ah (ai rfl rfl (ad (aj (ah (ae rfl rfl ?_))))));refine aP rfl rfl Ue (yy _ hM (by omega)) (fun v1 w1 hc=>?_);obtain⟨hv,s1⟩:=hc;replace hM:=s1.lt hM;have:=S.size;replace S:=S.ay s1;refine ai rfl rfl (ad (aj (ah (ai rfl rfl (ad (aj (aj (ah (ai rfl rfl (ad (a8 ?_)))))))))));refine dC (σ:=Nat×Value) (fun q=>[(3,v1),(4,q.2),(5,.int .i64 (q.1:Int))]) (fun q w=>∃M' ws,Lt M' w∧Step M w0 M' w aC∧Own RT.str 9 M' w w0.heap.size q.2 ws∧((RT.int .i64).sl).V M' w (dW l) v1∧DJ (dW l) q.1 ws) (fun q=>(dW l).length+1-q.1) (0,.slice none 0 0) (.cons rfl (.cons rfl (.cons rfl .nil))) ?_ ?_
 ·exact⟨M,[],hM,S,ec _ _ _ _ _,hv,.inl ⟨bG _,rfl⟩⟩
 ·rintro⟨i,u4⟩ w ⟨M1,ws,hM,S,pf,hv,Pp⟩;dsimp only at pf Pp ⊢;refine aj (aj (ah (ae rfl rfl (ae rfl rfl (bU au rfl hv rfl (cf rfl rfl rfl (ad ?_)))))));refine bI rfl (fun c4=>?_) (fun c4=>?_)
  ·refine aU (aj (a8 (aj (ah (ae rfl rfl (ae rfl rfl ?_))))));refine dq (M:=M1) au I3 rfl rfl rfl hv (aq _ _) (by omega) (fun Lc c Sk huc=>?_);refine cb (M:=M1) ar rfl rfl huc (aq _ _) (fun inc=>?_);rw[az]at Sk;refine aP rfl rfl OT (yx c _) (fun r wc hc=>?_);obtain⟨rfl,rfl⟩:=hc;refine bu (v':= .bool (decide (rA c=true))) (by cases rA c<;>rfl) (ai rfl rfl (ad (aj (aj (ah (ae rfl rfl (Rg.not rfl rfl (bu (v':= .bool (decide (rA c=false))) (by cases rA c<;>rfl) (ad ?_)))))))));refine bI rfl (fun c7=>?_) (fun c7=>?_)
   ·refine cM (ah (ae rfl rfl (bA rfl rfl rfl (by omega) (ai rfl rfl (ad ?_)))));refine⟨rfl,(i+1,u4),(.cons rfl (.cons rfl (.cons rfl .nil))),?_,?_⟩
    ·exact⟨M1,ws,hM,S,pf,hv,Pp.skip Sk (by assumption)⟩
    ·dsimp only;omega
   ·refine aU (aj (ah (ai rfl rfl (ad (aj (a8 ?_))))));refine dC (σ:=Nat×List Int×Value) (fun q=>[(3,v1),(4,u4),(5,.int .i64 (q.1:Int)),(7,q.2.2)]) (fun q w=>∃M',Lt M' w∧Step M w0 M' w aC∧Own RT.str 9 M' w w0.heap.size u4 ws∧Own (RT.int .i64) 3 M' w w0.heap.size q.2.2 q.2.1∧((RT.int .i64).sl).V M' w (dW l) v1∧((dW l).take q.1).foldl eI ([],[])=(q.2.1,ws)∧i≤q.1∧q.1≤(dW l).length∧(i<q.1→0<q.2.1.length)) (fun q=>(dW l).length-q.1) (i,[],.slice none 0 0) (.cons rfl (.cons rfl (.cons rfl (.cons rfl .nil)))) ?_ ?_
    ·have UY:((dW l).take i).foldl eI ([],[])=([],ws):=by
      rcases Pp with⟨_,h⟩|⟨h,_⟩
      ·exact h
      ·omega
     exact⟨M1,hM,S,pf,ec _ _ _ _ _,hv,UY,bj _,by dsimp only;omega,fun h=>absurd h (ic _)⟩
    ·rintro⟨j,own,u7⟩ w ⟨M2,hM,S,pf,rB,hv,hf,ND,pZ,pW⟩;dsimp only at rB hf ND pZ pW ⊢;refine aj (aj (ah (ae rfl rfl (ae rfl rfl (bU au rfl hv rfl (cf rfl rfl rfl (ae rfl rfl ?_)))))));refine aG (g:=27) rfl (fun UZ=>?_) (fun UZ=>?_)
     ·refine al rfl rfl (ae rfl rfl (al rfl rfl (ae rfl rfl (al rfl rfl ?_))));refine dq (M:=M2) au I3 rfl rfl rfl hv (aq _ _) (by omega) (fun acA d sT hud=>?_);refine al rfl rfl ?_;refine cb (M:=M2) ar rfl rfl hud (aq _ _) (fun ind=>?_);rw[az]at sT;refine al rfl rfl ?_;refine aP rfl rfl OT (yx d _) (fun r wc hc=>?_);obtain⟨rfl,rfl⟩:=hc;refine bu (v':= .bool (decide (rA d=true))) (by cases rA d<;>rfl) (aQ rfl rfl rfl (ad ?_));refine bI rfl (fun c9=>?_) (fun c9=>?_)
      ·refine aU (a8 (aj (ah (ae rfl rfl (ae rfl rfl (ae rfl rfl ?_))))));refine dq (M:=M2) au I3 rfl rfl rfl hv (aq _ _) (by omega) (fun Pq e uJ hue=>?_);refine cb (M:=M2) ar rfl rfl hue (aq _ _) (fun mM=>?_);rw[az]at uJ;have Ld:rA e=true:=by rw[sT]at uJ;cases uJ;assumption
       refine aP rfl rfl Uf (As e _ (ER Ld)) (fun r wc hc=>?_);obtain⟨rfl,rfl⟩:=hc;refine eE (A:=RT.int .i64) (hn:=by decide) (M:=M2) au I3 (by decide) rfl rfl hM (gp (by have:=ER Ld;unfold eC;split<;>omega)) (.inr ⟨rfl,rfl⟩) (fun Zj Zk Ay yE=>?_);replace hv:=hv.le yE.le;replace pf:=pf.bh yE;replace rB:=rB.bh yE;replace hM:=yE.lt hM;have:=S.size;replace S:=S.ay yE;refine cR (M:=M2) (base:=w0.heap.size) au I3 rfl rfl rfl rfl rB Ay (aq _ _) (by have:=fj hf;simp;omega) (by have:=fj hf;simp;omega) (S.size) (fun JB Pr Ps Lg mg=>?_);replace hv:=hv.le mg.le;replace Ay:=Ay.le mg.le;replace pf:=pf.step mg (fun b h1 h2=>pf.ir rB (by decide) h1 h2);replace hM:=mg.lt hM;have:=S.size;replace S:=S.dh mg rB (bj _);replace rB:=Lg;refine ai rfl rfl (ad (ah (ae rfl rfl (bA rfl rfl rfl (by omega) (ai rfl rfl (ad ?_))))));refine⟨rfl,(j+1,own++[eC e],JB),(.cons rfl (.cons rfl (.cons rfl (.cons rfl .nil)))),?_,?_⟩
       ·exact⟨Pr,hM,S,pf,rB,hv,by rw[qh uJ,hf,EP Ld],by dsimp only;omega,by dsimp only;omega,fun _=>by simp⟩
       ·dsimp only;omega
      ·refine cM (ah (ae rfl rfl (ae rfl rfl ?_)));refine aP rfl rfl OU (sI (M:=rm M2 u7) _ (fun b hb=>hM b hb.1) (rB.view (by have:=fj hf;omega)) (by have:=fj hf;omega)) (fun U0 Hl Lh=>?_);obtain⟨rfl,nP⟩:=Lh;replace nP:=nP.any M2;replace hv:=hv.le nP.le;replace pf:=pf.bh nP;replace rB:=rB.bh nP;replace hM:=nP.lt hM;have:=S.size;replace S:=S.ay nP;refine eE (A:=RT.str) (hn:=by decide) (M:=M2) bg I9 (by decide) rfl rfl hM (jQ.2 ⟨rfl,by have:=eQ own;have:=fj hf;omega⟩) (.inr ⟨rfl,rfl⟩) (fun Pt Pu oG ni=>?_);replace hv:=hv.le ni.le;replace pf:=pf.bh ni;replace rB:=rB.bh ni;replace hM:=ni.lt hM;have:=S.size;replace S:=S.ay ni;refine cR (M:=M2) (base:=w0.heap.size) bg I9 rfl rfl rfl rfl pf oG (aq _ _) (by have:=fj hf;simp;omega) (by have:=fj hf;simp;omega) (S.size) (fun sU nj ES oH dQ=>?_);replace hv:=hv.le dQ.le;replace oG:=oG.le dQ.le;replace rB:=rB.step dQ (fun b h1 h2=>rB.ir pf (by decide) h1 h2);replace hM:=dQ.lt hM;have:=S.size;replace S:=S.dh dQ pf (bj _);replace pf:=oH;refine ai rfl rfl (ad (ah (ae rfl rfl (bA rfl rfl rfl (by omega) (ai rfl rfl (ad ?_))))))
       have pW:0<own.length:=by
        rcases jj ND with e|h
        ·exfalso;subst e
         first|omega|(rw[Sk]at sT;cases sT;exact c9 (by cases hq:rA c with|true=>rfl|false=>exact absurd hq (by assumption)))
        ·exact pW h
       have U1:∀c,(dW l)[j]? =some c→rA c=false:=fun c hc=>by
        first|(rw[dI (by omega)]at hc;cases hc)|(rw[sT]at hc;cases hc;exact ey.2 c9)
       refine⟨rfl,(j+1,sU),(.cons rfl (.cons rfl (.cons rfl .nil))),?_,?_⟩
       ·exact⟨nj,_,hM,S,pf,hv,DJ.word hf pW pZ U1⟩
       ·dsimp only;omega
     ·refine ao rfl rfl rfl rfl (ao rfl rfl rfl rfl (ao rfl rfl rfl rfl (ao rfl rfl rfl rfl (ao rfl rfl rfl rfl (ax rfl rfl rfl (ad (hU rfl (cM (ah (ae rfl rfl (ae rfl rfl ?_)))))))))));refine aP rfl rfl OU (sI (M:=rm M2 u7) _ (fun b hb=>hM b hb.1) (rB.view (by have:=fj hf;omega)) (by have:=fj hf;omega)) (fun U0 Hl Lh=>?_);obtain⟨rfl,nP⟩:=Lh;replace nP:=nP.any M2;replace hv:=hv.le nP.le;replace pf:=pf.bh nP;replace rB:=rB.bh nP;replace hM:=nP.lt hM;have:=S.size;replace S:=S.ay nP;refine eE (A:=RT.str) (hn:=by decide) (M:=M2) bg I9 (by decide) rfl rfl hM (jQ.2 ⟨rfl,by have:=eQ own;have:=fj hf;omega⟩) (.inr ⟨rfl,rfl⟩) (fun Pt Pu oG ni=>?_);replace hv:=hv.le ni.le;replace pf:=pf.bh ni;replace rB:=rB.bh ni;replace hM:=ni.lt hM;have:=S.size;replace S:=S.ay ni;refine cR (M:=M2) (base:=w0.heap.size) bg I9 rfl rfl rfl rfl pf oG (aq _ _) (by have:=fj hf;simp;omega) (by have:=fj hf;simp;omega) (S.size) (fun sU nj ES oH dQ=>?_);replace hv:=hv.le dQ.le;replace oG:=oG.le dQ.le;replace rB:=rB.step dQ (fun b h1 h2=>rB.ir pf (by decide) h1 h2);replace hM:=dQ.lt hM;have:=S.size;replace S:=S.dh dQ pf (bj _);replace pf:=oH;refine ai rfl rfl (ad (ah (ae rfl rfl (bA rfl rfl rfl (by omega) (ai rfl rfl (ad ?_))))))
      have pW:0<own.length:=by
       rcases jj ND with e|h
       ·exfalso;subst e
        first|omega|(rw[Sk]at sT;cases sT;exact c9 (by cases hq:rA c with|true=>rfl|false=>exact absurd hq (by assumption)))
       ·exact pW h
      have U1:∀c,(dW l)[j]? =some c→rA c=false:=fun c hc=>by
       first|(rw[dI (by omega)]at hc;cases hc)|(rw[sT]at hc;cases hc;exact ey.2 c9)
      refine⟨rfl,(j+1,sU),(.cons rfl (.cons rfl (.cons rfl .nil))),?_,?_⟩
      ·exact⟨nj,_,hM,S,pf,hv,DJ.word hf pW pZ U1⟩
      ·dsimp only;omega
  ·refine cM (aj (ah (ae rfl rfl (ai rfl rfl (ad (aJ ?_))))));have e:=Pp.done (by omega);have e2:words l=ws:=e;rw[e2];exact aO rfl rfl ⟨pf.close jL S (by have:=Pp.len;omega),S.back⟩
end Go.K
namespace Go.K
open Go.Proofs
set_option maxRecDepth 10000
def j7:Nat→List (List UInt8)→Int
 |_,[]=>0
 |i,w::ws=>if 30<w.length then 3 else if 500≤i then 7 else j7 (i+1) ws
theorem BV {i k:Nat} {ws:List (List UInt8)} {x:List UInt8} (h:ws[k]? =some x):j7 i (ws.drop k)=if 30<x.length then 3 else if 500≤i then 7 else j7 (i+1) (ws.drop (k+1)):=by
 have dB:=(av.1 h).1;rw[dA dB,(av.1 h).2];rfl
theorem fx {M:aA} {w:World} {x:List UInt8} {v:Value} (h:RT.str.V M w x v):v= .string ⟨x.toArray⟩:=(jQ.1 h).1
theorem CT {M:aA} {l:List UInt8} (w0:World) (hM:Lt M w0) (hl:l.length≤900000):
  Spec Tryz.prog 150 #[.string ⟨l.toArray⟩] w0 (fun v w=>(∃u,v= .tuple #[u,.int .i64 (j7 0 (words l))]∧(j7 0 (words l)=0→∃a cap,u= .slice a (words l).length cap))∧Step M w0 M w aC):=by
 have jL:=hM;refine aX (args:=[_]) (fn:=Tryz.f150) Tryz.func150 rfl (n:=30) Tryz.ntmps150 ?_;have S:Step M w0 M w0 aC:=(an _ _).cc (fun _ h=>h.elim) (fun _ h=>h.elim);refine aj (ah (ai rfl rfl (ai rfl rfl (ad (aj (ah (ai rfl rfl (ad (aj (aj (ah ?_)))))))))));refine ae rfl rfl ?_;refine aP rfl rfl OR (sL _ hM hl) (fun v1 w1 hc=>?_);obtain⟨hv,s1⟩:=hc;replace hM:=s1.lt hM;have:=S.size;replace S:=S.ay s1;refine bU bg rfl hv rfl (ae rfl rfl (ad (a8 ?_)));refine dC (σ:=Nat×Value) (fun q=>[(8,v1),(4,q.2),(9,.int .i64 ((words l).length:Int)),(10,.int .i64 (q.1:Int))]) (fun q w=>(∃M' xs,Lt M' w∧Step M w0 M' w aC∧Own (RT.pair RT.str (RT.int .i64)) 256 M' w w0.heap.size q.2 xs∧xs.length=q.1∧(RT.str.sl).V M' w (words l) v1)∧j7 0 (words l)=j7 q.1 ((words l).drop q.1)∧q.1≤(words l).length∧q.1≤500) (fun q=>(words l).length-q.1) (0,.slice none 0 0) (.cons rfl (.cons rfl (.cons rfl (.cons rfl .nil)))) ?_ ?_
 ·exact⟨⟨M,[],hM,S,ec _ _ _ _ _,rfl,hv⟩,rfl,bG _,bG _⟩
 ·rintro⟨i,u⟩ w ⟨⟨M1,xs,hM,S,ho,uP,hv⟩,CE,hi,U2⟩;dsimp only at ho uP CE hi U2 ⊢;refine aj (ah (cf rfl rfl rfl (ad (aj ?_))));refine bI rfl (fun c3=>?_) (fun c3=>?_)
  ·refine aU (aj (a8 (aj (ah (ae rfl rfl ?_)))));refine dq (M:=M1) bg I9 rfl rfl rfl hv (aq _ _) (by omega) (fun U3 x NK U4=>?_);refine cg (M:=M1) aD rfl rfl rfl rfl rfl U4 (aq _ _) (fun vx sV=>?_);rw[az]at NK;obtain rfl:=fx sV;have ht:=BV (i:=i) NK;refine ai rfl rfl (ai rfl rfl (ad (aj (a8 (aj (ah (ae rfl rfl (Rg.kI aD rfl rfl (bu (v':= .int .i64 (x.length:Int)) (by simp[ByteArray.size]) (nK rfl rfl rfl (ai rfl rfl ?_)))))))))));refine ad ?_;refine bI rfl (fun c5=>?_) (fun c5=>?_)
   ·refine aj (ah (ai rfl rfl (ai rfl rfl (ad (aJ ?_)))));rw[CE,ht,if_pos (by omega)];exact eH rfl rfl rfl ⟨⟨_,rfl,fun h=>by cases h⟩,S.back⟩
   ·refine aj (ah (ae rfl rfl (Rg.zY rfl rfl rfl (ai rfl rfl (ad ?_)))));refine bI rfl (fun c7=>?_) (fun c7=>?_)
    ·refine aj (ah (ai rfl rfl (ai rfl rfl (ad (aJ ?_)))));rw[CE,ht,if_neg (by omega),if_pos (by omega)];exact eH rfl rfl rfl ⟨⟨_,rfl,fun h=>by cases h⟩,S.back⟩
    ·refine aU (ah (ae rfl rfl (ae rfl rfl (ae rfl rfl (dZ (places:=[(0,1),(1,1)]) Tryz.underlying256 CN ON rfl ⟨_,_,rfl,rfl,_,_,rfl,rfl,rfl⟩ (out:=[_,_]) ⟨0,[_],rfl,rfl,by simp[Value.cells],1,[_],rfl,rfl,by simp[Value.cells],rfl⟩ ?_)))));refine eE (A:=(RT.pair RT.str (RT.int .i64))) (hn:=by decide) (M:=M1) Tryz.underlying222 CN (by decide) rfl rfl hM (dY sV (gp (x:=(i:Int)) (by omega)) rfl rfl rfl rfl) (.inl rfl) (fun Pb UD ET uj=>?_);replace hv:=hv.le uj.le;replace sV:=sV.le uj.le;replace ho:=ho.bh uj;replace hM:=uj.lt hM;have:=S.size;replace S:=S.ay uj;refine cR (M:=M1) (base:=w0.heap.size) Tryz.underlying222 CN rfl rfl rfl rfl ho ET (aq _ _) (by simp;omega) (by simp;omega) (S.size) (fun U5 U6 Pv Pw nk=>?_);replace hv:=hv.le nk.le;replace sV:=sV.le nk.le;replace ET:=ET.le nk.le;replace hM:=nk.lt hM;have:=S.size;replace S:=S.dh nk ho (bj _);replace ho:=Pw;refine ai rfl rfl (ad (ah (bA rfl rfl rfl (by omega) (ae rfl rfl (ad ?_)))));refine⟨rfl,(i+1,U5),(.cons rfl (.cons rfl (.cons rfl (.cons rfl .nil)))),?_,?_⟩
     ·exact⟨⟨U6,_,hM,S,ho,by simp[uP],hv⟩,by rw[CE,ht,if_neg (by omega),if_neg (by omega)],by dsimp only;omega,by dsimp only;omega⟩
     ·dsimp only;omega
  ·refine cM (aj (ah (ae rfl rfl (ai rfl rfl (ai rfl rfl (ad (aJ ?_)))))));have e:j7 0 (words l)=0:=by rw[CE,ji (by omega)];rfl
   rw[e];obtain⟨a,cap,he,_⟩:=ho.isSlice;exact eH rfl rfl rfl ⟨⟨u,rfl,fun _=>⟨a,cap,by rw[he,uP];congr 1;omega⟩⟩,S.back⟩
theorem Az {M:aA} {l:List UInt8} (w0:World) (hM:Lt M w0) (hl:l.length≤900000):
  Spec Tryz.prog 167 #[.string ⟨l.toArray⟩] w0 (fun v w=>(∃u,v= .tuple #[u,.int .i64 (j7 0 (words l))]∧(j7 0 (words l)=0→∃a cap,u= .slice a (words l).length cap))∧Step M w0 M w aC):=by
 have jL:=hM;refine aX (args:=[_]) (fn:=Tryz.f167) Tryz.func167 rfl (n:=33) Tryz.ntmps167 ?_;have S:Step M w0 M w0 aC:=(an _ _).cc (fun _ h=>h.elim) (fun _ h=>h.elim);refine aj (ah (ai rfl rfl (ai rfl rfl (ad (aj (ah (ae rfl rfl ?_)))))));refine aP rfl rfl T4 (yD _ hM hl) (fun v1 w1 hc=>?_);obtain⟨hv,s1⟩:=hc;replace hM:=s1.lt hM;have:=S.size;replace S:=S.ay s1;refine ai rfl rfl (ad (aj (ah (ai rfl rfl (ad (aj (aj (ah (ai rfl rfl (ad (a8 ?_)))))))))));refine dC (σ:=Nat×Value) (fun q=>[(4,v1),(5,q.2),(6,.int .i64 (q.1:Int))]) (fun q w=>(∃M' xs,Lt M' w∧Step M w0 M' w aC∧Own (RT.pair RT.str (RT.int .i64)) 256 M' w w0.heap.size q.2 xs∧xs.length=q.1∧(RT.str.sl).V M' w (words l) v1)∧j7 0 (words l)=j7 q.1 ((words l).drop q.1)∧q.1≤(words l).length∧q.1≤500) (fun q=>(words l).length-q.1) (0,.slice none 0 0) (.cons rfl (.cons rfl (.cons rfl .nil))) ?_ ?_
 ·exact⟨⟨M,[],hM,S,ec _ _ _ _ _,rfl,hv⟩,rfl,bG _,bG _⟩
 ·rintro⟨i,u⟩ w ⟨⟨M1,xs,hM,S,ho,uP,hv⟩,CE,hi,U2⟩;dsimp only at ho uP CE hi U2 ⊢;refine aj (aj (ah (ae rfl rfl (ae rfl rfl (bU bg rfl hv rfl (cf rfl rfl rfl (ad ?_)))))));refine bI rfl (fun c4=>?_) (fun c4=>?_)
  ·refine aU (aj (a8 (aj (aj (ah (ae rfl rfl (ae rfl rfl ?_)))))));refine dq (M:=M1) bg I9 rfl rfl rfl hv (aq _ _) (by omega) (fun Lc x NK U4=>?_);refine cg (M:=M1) aD rfl rfl rfl rfl rfl U4 (aq _ _) (fun vx sV=>?_);rw[az]at NK;obtain rfl:=fx sV;have ht:=BV (i:=i) NK;refine Rg.kI aD rfl rfl (bu (v':= .int .i64 (x.length:Int)) (by simp[ByteArray.size]) (nK rfl rfl rfl (ad ?_)));refine bI rfl (fun c6=>?_) (fun c6=>?_)
   ·refine aj (ah (ai rfl rfl (ai rfl rfl (ad (aJ ?_)))));rw[CE,ht,if_pos (by omega)];exact eH rfl rfl rfl ⟨⟨_,rfl,fun h=>by cases h⟩,S.back⟩
   ·refine aU (aj (aj (ah (ae rfl rfl (dr rfl rfl rfl (ad ?_))))));refine bI rfl (fun c8=>?_) (fun c8=>?_)
    ·refine aj (ah (ai rfl rfl (ai rfl rfl (ad (aJ ?_)))));rw[CE,ht,if_neg (by omega),if_pos (by omega)];exact eH rfl rfl rfl ⟨⟨_,rfl,fun h=>by cases h⟩,S.back⟩
    ·refine aU (ah (ae rfl rfl (ae rfl rfl (ae rfl rfl ?_))));refine dq (M:=M1) bg I9 rfl rfl rfl hv (aq _ _) (by omega) (fun Pq y U7 huy=>?_);refine cg (M:=M1) aD rfl rfl rfl rfl rfl huy (aq _ _) (fun vy NL=>?_);rw[az]at U7;obtain rfl:=fx NL;obtain rfl:x=y:=by rw[NK]at U7;exact bM U7
     refine ae rfl rfl (dZ (places:=[(0,1),(1,1)]) Tryz.underlying256 CN ON rfl ⟨_,_,rfl,rfl,_,_,rfl,rfl,rfl⟩ (out:=[_,_]) ⟨0,[_],rfl,rfl,by simp[Value.cells],1,[_],rfl,rfl,by simp[Value.cells],rfl⟩ ?_);refine eE (A:=(RT.pair RT.str (RT.int .i64))) (hn:=by decide) (M:=M1) Tryz.underlying222 CN (by decide) rfl rfl hM (dY NL (gp (x:=(i:Int)) (by omega)) rfl rfl rfl rfl) (.inl rfl) (fun JB Ps AA mg=>?_);replace hv:=hv.le mg.le;replace sV:=sV.le mg.le;replace NL:=NL.le mg.le;replace ho:=ho.bh mg;replace hM:=mg.lt hM;have:=S.size;replace S:=S.ay mg;refine cR (M:=M1) (base:=w0.heap.size) Tryz.underlying222 CN rfl rfl rfl rfl ho AA (aq _ _) (by simp;omega) (by simp;omega) (S.size) (fun Px Py BW Lj eY=>?_);replace hv:=hv.le eY.le;replace sV:=sV.le eY.le;replace NL:=NL.le eY.le;replace AA:=AA.le eY.le;replace hM:=eY.lt hM;have:=S.size;replace S:=S.dh eY ho (bj _);replace ho:=Lj;refine ai rfl rfl (ad (ah (ae rfl rfl (bA rfl rfl rfl (by omega) (ai rfl rfl (ad ?_))))));refine⟨rfl,(i+1,Px),(.cons rfl (.cons rfl (.cons rfl .nil))),?_,?_⟩
     ·exact⟨⟨Py,_,hM,S,ho,by simp[uP],hv⟩,by rw[CE,ht,if_neg (by omega),if_neg (by omega)],by dsimp only;omega,by dsimp only;omega⟩
     ·dsimp only;omega
  ·refine cM (aj (ah (ae rfl rfl (ai rfl rfl (ai rfl rfl (ad (aJ ?_)))))));have e:j7 0 (words l)=0:=by rw[CE,ji (by omega)];rfl
   rw[e];obtain⟨a,cap,he,_⟩:=ho.isSlice;exact eH rfl rfl rfl ⟨⟨u,rfl,fun _=>⟨a,cap,by rw[he,uP];congr 1;omega⟩⟩,S.back⟩
end Go.K
namespace Go.K
abbrev Fd:=List UInt8×List UInt8
abbrev Dc:=Int×List Fd
abbrev En:=Dc×Int
abbrev RT.fd:RT Fd:=RT.pair RT.str RT.str
abbrev RT.dc:RT Dc:=RT.pair (RT.int .i64) (RT.fd.sl)
abbrev RT.en:RT En:=RT.pair RT.dc (RT.int .i64)
theorem Lk:Part RT.fd RT.str (fun p=>p.1) 0:=kj _ _
theorem Sm:Part RT.fd RT.str (fun p=>p.2) 1:=fI _ _
theorem Pz:Part RT.dc (RT.int .i64) (fun p=>p.1) 0:=kj _ _
theorem CU:Part RT.dc (RT.fd.sl) (fun p=>p.2) 1:=fI _ _
theorem PA:Part RT.en RT.dc (fun p=>p.1) 0:=kj _ _
theorem Sn:Part RT.en (RT.int .i64) (fun p=>p.2) 2:=fI _ _
theorem xe {M:aA} {w:World} {p:Dc} {v:Value} (h:RT.dc.V M w p v):∃u,v= .agg #[.int .i64 p.1,u]:=by
 obtain⟨vs,⟨va,vb,rfl,⟨rfl,_⟩,hb⟩,rfl⟩:=h;have:=(RT.fd.sl (by decide)).len hb
 match vb,this with
 |[u],_=>exact⟨u,rfl⟩
theorem BX {M:aA} {w:World} {p:Dc} {u:Value} {s:Int} (h:RT.dc.V M w p (.agg #[.int .i64 p.1,u])) (hs: -9223372036854775808≤s∧s≤9223372036854775807):RT.en.V M w (p,s) (.agg [.int .i64 p.1,u,.int .i64 s].toArray):=by
 obtain⟨vs,h1,h2⟩:=h
 have h3:vs=[.int .i64 p.1,u]:=by
  have:Value.agg #[.int .i64 p.1,u]= .agg vs.toArray:=h2;injection this with this
  simpa using(congrArg Array.toList this).symm
 subst h3;exact⟨_,⟨[.int .i64 p.1,u],[.int .i64 s],rfl,h1,rfl,hs.1,hs.2⟩,rfl⟩
theorem Own.JC {α:Type} (A:RT α) (e:TypeId) (base:Nat) {M:aA} {w:World} (h:Lt M w):Own A e M w base (.slice none 0 0) []:=ec _ _ _ _ _
section
variable {P:Program} {r:Option Nat} {n:Nat} {L:Sl} {ds:List Deferred} {w:World} {K:Kt} {ops:Array Oper} {rest:List Oper} {d:Nat} {x:Operand} {ty:TypeId} {pos:String} {af:Array Edge}
theorem Rg.kM {α:Type} {A:RT α} {e:TypeId} {v:Value} {a:α} {M:aA} (hx:ev L x=some v) (hd:Nat.blt d n=true) (hM:Lt M w) (hv:A.V M w a v) (hg:A.agg=true)
  (k:∀u w',ch A M w' u a→Step M w M w' aC→w.heap.size≤w'.heap.size→Rg P r n ops rest ((d,u)::L) ds w' K):
  Rg P r n ops ({dst:=some d,op:= .box e x,type:=ty,pos,after:=af,guard:=none}::rest) L ds w K:=by
 refine oT M hx hd (fun b w' h1 h2 hb s=>?_);obtain⟨vs,h3,h4⟩:=hv;have hc:v.cells=vs.toArray:=by subst h4;simp[RT.val,hg,Value.cells]
 rw[hc]at hb;refine k _ w' ⟨b,0,vs,rfl,fun hm=>?_,A.le s.back.le h3,fun j u hj=>?_⟩ s.back s.size
 ·have:=hM b hm;omega
 ·rw[Nat.zero_add];exact gE hb (by simpa using hj)
end
end Go.K
namespace Go.Proofs
open Go.Shelf
def Tryz.yF:Go.Shelf.Ren:=⟨fun|160=>193|232=>227|231=>226|227=>228|234=>230|233=>229|236=>232|235=>231|228=>257|271=>260|151=>259|197=>258|120=>280|152=>279|260=>278|137=>287|119=>277|224=>288|225=>289|217=>291|266=>292|n=>n,fun|9=>9|4=>4|3=>3|5=>5|117=>283|116=>282|0=>0|124=>286|21=>21|105=>317|46=>183|119=>338|139=>341|138=>340|n=>n,fun|3=>2|4=>3|n=>n⟩
theorem Tryz.H4:Go.Proofs.Lays.n160 Tryz.prog Tryz.yF:={
 mixed:=by kernel_rfl
 f119:=Tryz.func277.trans (congrArg some (by kernel_rfl))
 f120:=Tryz.func280.trans (congrArg some (by kernel_rfl))
 f137:=Tryz.func287.trans (congrArg some (by kernel_rfl))
 f151:=Tryz.func259.trans (congrArg some (by kernel_rfl))
 f152:=Tryz.func279.trans (congrArg some (by kernel_rfl))
 f160:=Tryz.func193.trans (congrArg some (by kernel_rfl))
 f197:=Tryz.func258.trans (congrArg some (by kernel_rfl))
 f217:=Tryz.func291.trans (congrArg some (by kernel_rfl))
 f224:=Tryz.func288.trans (congrArg some (by kernel_rfl))
 f225:=Tryz.func289.trans (congrArg some (by kernel_rfl))
 f227:=Tryz.func228.trans (congrArg some (by kernel_rfl))
 f228:=Tryz.func257.trans (congrArg some (by kernel_rfl))
 f231:=Tryz.func226.trans (congrArg some (by kernel_rfl))
 f232:=Tryz.func227.trans (congrArg some (by kernel_rfl))
 f233:=Tryz.func229.trans (congrArg some (by kernel_rfl))
 f234:=Tryz.func230.trans (congrArg some (by kernel_rfl))
 f235:=Tryz.func231.trans (congrArg some (by kernel_rfl))
 f236:=Tryz.func232.trans (congrArg some (by kernel_rfl))
 f260:=Tryz.func278.trans (congrArg some (by kernel_rfl))
 f266:=Tryz.func292.trans (congrArg some (by kernel_rfl))
 f271:=Tryz.func260.trans (congrArg some (by kernel_rfl))
 t0:=gH
 a0:=rE
 z0:=oh
 v0:=iH
 t3:=ar
 a3:=rF
 z3:=om
 v3:=iI
 t4:=jy
 a4:=Tryz.isAgg4
 z4:=Tryz.sizeOf4
 v4:=oS
 t5:=b4
 a5:=Tryz.isAgg5
 z5:=Tryz.sizeOf5
 v5:=Tryz.zeroValue5
 t9:=aD
 a9:=rG
 z9:=ot
 v9:=iJ
 t21:=Tryz.underlying21
 a21:=Tryz.isAgg21
 z21:=Tryz.sizeOf21
 v21:=Tryz.zeroValue21
 t46:=Tryz.underlying183
 a46:=Tryz.isAgg183
 z46:=Tryz.sizeOf183
 v46:=Tryz.zeroValue183
 t105:=Tryz.underlying317
 a105:=Tryz.isAgg317
 z105:=Tryz.sizeOf317
 v105:=Tryz.zeroValue317
 t116:=Tryz.underlying282
 a116:=Tryz.isAgg282
 z116:=Tryz.sizeOf282
 t117:=Tryz.underlying283
 a117:=Tryz.isAgg283
 z117:=Tryz.sizeOf283
 v117:=Tryz.zeroValue283
 t119:=Tryz.underlying338
 a119:=Tryz.isAgg338
 z119:=Tryz.sizeOf338
 t124:=Tryz.underlying286
 a124:=Tryz.isAgg286
 z124:=Tryz.sizeOf286
 v124:=Tryz.zeroValue286
 t138:=Tryz.underlying340
 a138:=Tryz.isAgg340
 z138:=Tryz.sizeOf340
 v138:=Tryz.zeroValue340
 t139:=Tryz.underlying341
 a139:=Tryz.isAgg341
 z139:=Tryz.sizeOf341
 v139:=Tryz.zeroValue341
 g3:=by kernel_rfl
 g4:=by kernel_rfl}
end Go.Proofs
namespace Go.K
open Go.Proofs
set_option maxRecDepth 10000
open Go.RowKit Go.Shelf
def jE:List UInt8:=[97,98,99,100,101,102,103,104,105,106,107,108,109,110,111,112,113,114,115,116,117,118,119,120,121,122]
def fG (b:UInt8):Bool:=decide (97≤b.toNat∧b.toNat≤122)
def eM (s:List UInt8):Bool:=decide (1≤s.length∧s.length≤12)&&s.all fG
theorem yG (b:UInt8):jE.contains b=fG b:=by
 have key:∀n:Fin 256,jE.contains (UInt8.ofNat n)=fG (UInt8.ofNat n):=by decide
 have:=key ⟨b.toNat,UInt8.toNat_lt b⟩;simpa using this
theorem drop_nil {α:Type} (p:α→Bool):∀l:List α,l.dropWhile p=[]↔∀x∈l,p x=true
 |[]=>by simp
 |x::l=>by
  rw[List.dropWhile_cons];by_cases h:p x=true
  ·rw[if_pos h,drop_nil p l];simp[h]
  ·rw[if_neg h];simp[h]
theorem sY (s:List UInt8):Lib.trimS s jE=[]↔s.all fG=true:=by
 have e:(fun b=>jE.contains b)=fG:=funext yG;unfold Lib.trimS Lib.trimLeftS Lib.trimRightS;rw[e,drop_nil,eh];constructor
 ·intro h
  have h2:s.reverse.dropWhile fG=[]:=by
   cases hd:s.reverse.dropWhile fG with
   |nil=>rfl
   |cons x r=>
    have h3:=h x (by rw[hd];simp);have h4:=List.head?_dropWhile_not fG s.reverse;rw[hd]at h4;simp[h3]at h4
  intro x hx;exact(drop_nil _ _).1 h2 x (List.mem_reverse.2 hx)
 ·intro h x hx;rw[(drop_nil fG s.reverse).2 (fun y hy=>h y (List.mem_reverse.1 hy))]at hx
  cases hx
theorem CV (s:List UInt8) (hs:s.length≤140737488355328) (w:World):Spec Tryz.prog 193 #[.string ⟨s.toArray⟩,.string ⟨jE.toArray⟩] w (fun v w'=>v= .string ⟨(Lib.trimS s jE).toArray⟩∧∀M,Step M w M w' aC):=
 (Any.strings_Trim_ascii Tryz.H4 Tryz.zeroValue282 (by kernel_rfl) ⟨s.toArray⟩ ⟨jE.toArray⟩ w (by simp[ByteArray.size];omega) (by decide) (fun j b hj=>by
  have hm:b∈jE:=aM hj;have:=yG b;rw[gD.2 hm]at this;have h2:97≤b.toNat∧b.toNat≤122:=by simpa[fG]using this.symm
  omega)).mono fun e w' ⟨h1,h2⟩=>⟨_,h1,rfl,fun M=> .sw h2 M⟩
theorem CW (s:List UInt8) (hs:s.length≤140737488355328) (w0:World):
  Spec Tryz.prog 151 #[.string ⟨s.toArray⟩] w0 (fun v w=>v= .bool (eM s)∧∀M,Step M w0 M w aC):=by
 refine aX (args:=[_]) (fn:=Tryz.f151) Tryz.func151 rfl (n:=15) Tryz.ntmps151 (aj (ah (ai rfl rfl (ad (aj (ah (ae rfl rfl (Rg.Ob (p:=s) (q:=[]) rfl rfl rfl (ae rfl rfl ?_)))))))));refine aG (g:=5) rfl (fun fF=>?_) (fun fF=>?_)
 ·refine al rfl rfl (ae rfl rfl (al rfl rfl (Rg.kI aD rfl rfl (bu (v':= .int .i64 (s.length:Int)) (by simp[ByteArray.size]) (al rfl rfl (eP rfl rfl rfl (aQ rfl rfl rfl (ae rfl rfl ?_))))))));refine aG (g:=10) rfl (fun U8=>?_) (fun U8=>?_)
  ·refine al rfl rfl (ae rfl rfl (al rfl rfl ?_));refine aP rfl rfl T5 (CV s hs _) (fun r w9 hc=>?_);obtain⟨rfl,s9⟩:=hc;refine al rfl rfl (Rg.BG (p:=Lib.trimS s jE) (q:=[]) rfl rfl rfl (aQ rfl rfl rfl (ai rfl rfl (ad (aJ ?_)))))
   first
   |exact aO rfl rfl ⟨by rw[eM,decide_eq_true (p:=1≤s.length∧s.length≤12) ⟨lB.2 fF,by omega⟩,dw];exact congrArg Value.bool (by rw[Bool.eq_iff_iff,decide_eq_true_eq];exact sY s),s9⟩
   |exact aO rfl rfl ⟨by rw[eM,decide_eq_false (p:=1≤s.length∧s.length≤12) (by omega),fO],fun M=>an _ _⟩
   |(have Ll:s=[]:=Classical.not_not.1 fF
     subst Ll;exact aO rfl rfl ⟨rfl,fun M=>an _ _⟩)
  ·refine ao rfl rfl rfl rfl (ao rfl rfl rfl rfl (ao rfl rfl rfl rfl (ax rfl rfl rfl (ai rfl rfl (ad (aJ ?_))))))
   first
   |exact aO rfl rfl ⟨by rw[eM,decide_eq_true (p:=1≤s.length∧s.length≤12) ⟨lB.2 fF,by omega⟩,dw];exact congrArg Value.bool (by rw[Bool.eq_iff_iff,decide_eq_true_eq];exact sY s),s9⟩
   |exact aO rfl rfl ⟨by rw[eM,decide_eq_false (p:=1≤s.length∧s.length≤12) (by omega),fO],fun M=>an _ _⟩
   |(have Ll:s=[]:=Classical.not_not.1 fF
     subst Ll;exact aO rfl rfl ⟨rfl,fun M=>an _ _⟩)
 ·refine ao rfl rfl rfl rfl (ao rfl rfl rfl rfl (ao rfl rfl rfl rfl (ax rfl rfl rfl (ae rfl rfl (ao rfl rfl rfl rfl (ao rfl rfl rfl rfl (ao rfl rfl rfl rfl (ax rfl rfl rfl (ai rfl rfl (ad (aJ ?_)))))))))))
  first
  |exact aO rfl rfl ⟨by rw[eM,decide_eq_true (p:=1≤s.length∧s.length≤12) ⟨lB.2 fF,by omega⟩,dw];exact congrArg Value.bool (by rw[Bool.eq_iff_iff,decide_eq_true_eq];exact sY s),s9⟩
  |exact aO rfl rfl ⟨by rw[eM,decide_eq_false (p:=1≤s.length∧s.length≤12) (by omega),fO],fun M=>an _ _⟩
  |(have Ll:s=[]:=Classical.not_not.1 fF
    subst Ll;exact aO rfl rfl ⟨rfl,fun M=>an _ _⟩)
theorem EU {s:List UInt8} (h:∀(k:Nat) c,s[k]? =some c→fG c=true):s.all fG=true:=eh.2 fun c hc=>by
 obtain⟨k,hk⟩:=bO.1 hc;exact h k c hk
theorem pg {s:List UInt8} {i:Nat} (h:i<s.length):s[i]? =some (s.getD i 0):=by rw[bH,aL h];rfl
theorem kN {M:aA} {w:World} {p:Fd} {v:Value} (h:RT.fd.V M w p v):v= .agg #[.string ⟨p.1.toArray⟩,.string ⟨p.2.toArray⟩]:=by
 obtain⟨vs,⟨va,vb,rfl,⟨rfl,_⟩,⟨rfl,_⟩⟩,rfl⟩:=h;rfl
theorem EV {M:aA} {w:World} {p:Fd} {v:Value} (h:RT.fd.V M w p v):p.1.length≤140737488355328∧p.2.length≤140737488355328:=by
 obtain⟨vs,⟨va,vb,rfl,⟨rfl,h1⟩,⟨rfl,h2⟩⟩,_⟩:=h;exact⟨h1,h2⟩
def ta:List Fd→List Fd→Nat→Int
 |_,[],n=>if 500<n then 7 else 0
 |seen,f::fs,n=>if eM f.1=false then 4 else if(seen.any fun g=>decide (g.1=f.1))=true then 5 else if j7 0 (words f.2)≠0 then j7 0 (words f.2)else ta (seen++[f]) fs (n+(words f.2).length)
def kn (d:Dc):Int:=if 8<d.2.length then 7 else ta [] d.2 0
theorem BY {fs:List Fd} {i n:Nat} {x:Fd} (h:fs[i]? =some x):ta (fs.take i) (fs.drop i) n=if eM x.1=false then 4 else if((fs.take i).any fun g=>decide (g.1=x.1))=true then 5 else if j7 0 (words x.2)≠0 then j7 0 (words x.2)else ta (fs.take (i+1)) (fs.drop (i+1)) (n+(words x.2).length):=by
 have dB:=(av.1 h).1;rw[dA dB,(av.1 h).2,cd,h];rfl
theorem ph {fs:List Fd} {i n:Nat} (h:fs.length≤i):ta (fs.take i) (fs.drop i) n=if 500<n then 7 else 0:=by
 rw[ji h];rfl
theorem tb (s:List UInt8) (hs:s.length≤140737488355328) (w0:World):
  Spec Tryz.prog 116 #[.string ⟨s.toArray⟩] w0 (fun v w=>v= .bool (eM s)∧w=w0):=by
 refine aX (args:=[_]) (fn:=Tryz.f116) Tryz.func116 rfl (n:=28) Tryz.ntmps116 (aj (ah (ai rfl rfl (ad (aj (aj (ah (ai rfl rfl (ad (a8 ?_))))))))));refine dC (σ:=Nat) (fun i=>[(0,.string ⟨s.toArray⟩),(3,.int .i64 (i:Int))]) (fun i w=>w=w0∧i≤s.length∧∀k c,k<i→s[k]? =some c→fG c=true) (fun i=>s.length-i) 0 (.cons rfl (.cons rfl .nil)) ?_ ?_
 ·exact⟨rfl,bG _,fun k c h=>absurd h (jz k)⟩
 ·rintro i w ⟨rfl,hi,fu⟩;refine aj (aj (ah (ae rfl rfl (ae rfl rfl (Rg.kI aD rfl rfl (bu (v':= .int .i64 (s.length:Int)) (by simp[ByteArray.size]) (cf rfl rfl rfl (ad ?_))))))));refine bI rfl (fun c2=>?_) (fun c2=>?_)
  ·refine aU (aj (a8 (aj (ah (ae rfl rfl (ae rfl rfl (Rg.BQ (c:=s.getD i 0) aD rfl rfl rfl (by omega) (by rw[az];exact pg (by omega)) (cf rfl rfl rfl (ae rfl rfl ?_)))))))));refine aG (g:=14) rfl (fun U9=>?_) (fun U9=>?_)
   ·refine ao rfl rfl rfl rfl (ao rfl rfl rfl rfl (ao rfl rfl rfl rfl (ao rfl rfl rfl rfl (aQ rfl rfl rfl (ad (lC rfl (aj (ah (ai rfl rfl (ad (aJ ?_)))))))))))
    have hx:s.all fG=false:=ey.2 fun h=>by
     have h2:=eh.1 h _ (aM (pg (s:=s) (i:=i) (by omega)));simp only[fG,decide_eq_true_eq]at h2;omega
    exact aO rfl rfl ⟨by rw[eM,hx,Bool.and_false],rfl⟩
   ·refine al rfl rfl (ae rfl rfl (al rfl rfl (ae rfl rfl (al rfl rfl (Rg.BQ (c:=s.getD i 0) aD rfl rfl rfl (by omega) (by rw[az];exact pg (by omega)) (al rfl rfl (nK rfl rfl rfl (ax rfl rfl rfl (ad ?_)))))))));refine bI rfl (fun c4=>?_) (fun c4=>?_)
    ·refine aj (ah (ai rfl rfl (ad (aJ ?_))))
     have hx:s.all fG=false:=ey.2 fun h=>by
      have h2:=eh.1 h _ (aM (pg (s:=s) (i:=i) (by omega)));simp only[fG,decide_eq_true_eq]at h2;omega
     exact aO rfl rfl ⟨by rw[eM,hx,Bool.and_false],rfl⟩
    ·refine aU (ah (ae rfl rfl (bA rfl rfl rfl (by omega) (ai rfl rfl (ad ?_)))));refine⟨rfl,i+1,(.cons rfl (.cons rfl .nil)),?_,?_⟩
     ·exact⟨rfl,by omega,fun k c h hc=>by
       rcases cK k i with h2|h2
       ·exact fu k c h2 hc
       ·obtain rfl:k=i:=by omega
        rw[pg (by omega)]at hc;cases hc;simp only[fG,decide_eq_true_eq];omega⟩
     ·omega
  ·refine cM (aj (ah (ae rfl rfl (Rg.kI aD rfl rfl (bu (v':= .int .i64 (s.length:Int)) (by simp[ByteArray.size]) (dr rfl rfl rfl (ae rfl rfl ?_)))))));refine aG (g:=23) rfl (fun mC=>?_) (fun mC=>?_)
   ·refine al rfl rfl (ae rfl rfl (al rfl rfl (Rg.kI aD rfl rfl (bu (v':= .int .i64 (s.length:Int)) (by simp[ByteArray.size]) (al rfl rfl (eP rfl rfl rfl (aQ rfl rfl rfl (ai rfl rfl (ad (aJ ?_))))))))));have ha:s.all fG=true:=EU fun k c hc=>fu k c (by have:=(av.1 hc).1;omega) hc
    first
    |exact aO rfl rfl ⟨by rw[eM,ha,ie];exact congrArg Value.bool (decide_eq_decide.2 (by omega)),rfl⟩
    |exact aO rfl rfl ⟨by rw[eM,ha,ie];exact congrArg Value.bool (decide_eq_false (by omega)).symm,rfl⟩
   ·refine ao rfl rfl rfl rfl (ao rfl rfl rfl rfl (ao rfl rfl rfl rfl (ax rfl rfl rfl (ai rfl rfl (ad (aJ ?_))))));have ha:s.all fG=true:=EU fun k c hc=>fu k c (by have:=(av.1 hc).1;omega) hc
    first
    |exact aO rfl rfl ⟨by rw[eM,ha,ie];exact congrArg Value.bool (decide_eq_decide.2 (by omega)),rfl⟩
    |exact aO rfl rfl ⟨by rw[eM,ha,ie];exact congrArg Value.bool (decide_eq_false (by omega)).symm,rfl⟩
theorem CX {M:aA} {o:Fd} {v0:Value} (w0:World) (hM:Lt M w0) (hv:RT.fd.V M w0 o v0) {nm:List UInt8} {t:Value} {bf:Nat} (g:w0.heap[bf]? =some (.cells #[.string ⟨nm.toArray⟩,t] 127 (0,0))) (vq:M bf):
  Spec Tryz.prog 153 #[v0,.pointer (some ⟨bf,0,none⟩)] w0 (fun v w=>v= .bool (decide (o.1=nm))∧Step M w0 M w aC):=by
 refine aX (args:=[_,_]) (fn:=Tryz.f153) Tryz.func153 rfl (n:=9) Tryz.ntmps153 ?_;have S:Step M w0 M w0 aC:=(an _ _).cc (fun _ h=>h.elim) (fun _ h=>h.elim);refine aj (ah ?_);refine Rg.kM (A:=RT.fd) rfl rfl hM hv rfl (fun u0 w1 cA s0 _=>?_);have:=ak g;replace vq:=(s0.mem _ this).2 vq;replace g:=s0.aI g;replace hM:=s0.lt hM;have:=S.size;replace S:=S.ay s0;refine ai rfl rfl (ad (aj (ah ?_)));refine aH (M:=M) (A:=RT.fd) (B:=RT.str) bT rfl rfl I9 (by decide) (Lk) rfl rfl (by decide) (by assumption) (by repeat (first|exact aq _ _|refine aT (aY (by assumption)) ?_)) (fun uk jw=>?_);refine cg (M:=M) aD rfl rfl rfl rfl rfl jw (aq _ _) (fun v1 nZ=>?_);obtain rfl:=fx nZ;refine aS (o':=0) bT rfl rfl I9 (by decide) rfl rfl (aE aD rfl rfl rfl (by assumption) rfl (Rg.BG (p:=o.1) (q:=nm) rfl rfl rfl (ai rfl rfl (ad (aJ ?_)))));exact aO rfl rfl ⟨rfl,S⟩
theorem AB {M:aA} {fs:List Fd} {v0:Value} (w0:World) (hM:Lt M w0) (hv:(RT.fd.sl).V M w0 fs v0) {nm:List UInt8} {t:Value} {bf:Nat} (g:w0.heap[bf]? =some (.cells #[.string ⟨nm.toArray⟩,t] 127 (0,0))) (vq:M bf):
  Spec Tryz.prog 194 #[v0,.func (.func 153) #[] #[.pointer (some ⟨bf,0,none⟩)]] w0 (fun v w=>(∃k:Int,v= .int .i64 k∧(0≤k↔(fs.any fun g=>decide (g.1=nm))=true)∧ -1≤k∧k≤9223372036854775807)∧Step M w0 M w aC):=by
 have DE:=dV hv;refine aX (args:=[_,_]) (fn:=Tryz.f194) Tryz.func194 rfl (n:=19) Tryz.ntmps194 ?_;have S:Step M w0 M w0 aC:=(an _ _).cc (fun _ h=>h.elim) (fun _ h=>h.elim);refine aj (ah (ai rfl rfl (ad (aj (aj (ah (ae rfl rfl (bU aV rfl hv rfl (ae rfl rfl (ad (a8 ?_)))))))))));refine dC (σ:=Nat) (fun i=>[(0,v0),(1,.func (.func 153) #[] #[.pointer (some ⟨bf,0,none⟩)]),(6,v0),(7,.int .i64 (fs.length:Int)),(8,.int .i64 (i:Int))]) (fun i w=>Lt M w∧Step M w0 M w aC∧(w.heap[bf]? =some (.cells #[.string ⟨nm.toArray⟩,t] 127 (0,0)))∧(RT.fd.sl).V M w fs v0∧i≤fs.length∧∀k o,k<i→fs[k]? =some o→o.1≠nm) (fun i=>fs.length-i) 0 (.cons rfl (.cons rfl (.cons rfl (.cons rfl (.cons rfl .nil))))) ?_ ?_
 ·exact⟨hM,S,g,hv,bG _,fun k c h=>absurd h (jz k)⟩
 ·rintro i w ⟨hM,S,g,hv,hi,fu⟩;refine aj (ah (cf rfl rfl rfl (ad (aj ?_))));refine bI rfl (fun c2=>?_) (fun c2=>?_)
  ·refine aU (aj (a8 (aj (ah (ae rfl rfl (ai rfl rfl (ad (aj (ah (ae rfl rfl (ae rfl rfl ?_)))))))))));refine ae rfl rfl ?_;refine dq (M:=M) aV gZ rfl rfl rfl hv (aq _ _) (by omega) (fun u4 o Ao xS=>?_);refine cx (M:=M) (A:=RT.fd) bT rfl gZ (by decide) rfl rfl rfl xS (aq _ _) (fun v4 qi=>?_);rw[az]at Ao;refine Rg.nT (first:=[]) (captured:=[.pointer (some ⟨bf,0,none⟩)]) rfl rfl rfl TV (CX _ hM qi g vq) (fun r5 w5 hc=>?_);obtain⟨rfl,s5⟩:=hc;have:=ak g;replace vq:=(s5.mem _ this).2 vq;replace g:=s5.aI g;replace hv:=hv.le s5.le;replace hM:=s5.lt hM;have:=S.size;replace S:=S.ay s5;refine ad ?_;refine bI rfl (fun c4=>?_) (fun c4=>?_)
   ·refine aj (ah (ae rfl rfl (ai rfl rfl (ad (aJ ?_)))));exact aO rfl rfl ⟨⟨_,rfl,⟨fun _=>pQ.2 ⟨o,aM Ao,by simpa using(by assumption)⟩,fun _=>by omega⟩,by omega,by omega⟩,S.back⟩
   ·refine aU (ah (bA rfl rfl rfl (by omega) (ae rfl rfl (ad ?_))));refine⟨rfl,i+1,(.cons rfl (.cons rfl (.cons rfl (.cons rfl (.cons rfl .nil))))),?_,?_⟩
    ·exact⟨hM,S,g,hv,by omega,fun k o' h hc=>by
      rcases cK k i with h2|h2
      ·exact fu k o' h2 hc
      ·obtain rfl:k=i:=by omega
       rw[Ao]at hc;cases hc;assumption⟩
    ·omega
  ·refine cM (aj (ah (ai rfl rfl (ad (aJ ?_)))))
   exact aO rfl rfl ⟨⟨-1,rfl,⟨fun h=>by omega,fun h=>by
    obtain⟨o,ho,he⟩:=pQ.1 h;obtain⟨k,hk⟩:=bO.1 ho;exact absurd (by simpa using he) (fu k o (by have:=(av.1 hk).1;omega) hk)⟩,by omega,by omega⟩,S.back⟩
theorem yH {M:aA} {fs:List Fd} {v0:Value} (w0:World) (hM:Lt M w0) (hv:(RT.fd.sl).V M w0 fs v0) {nm:List UInt8} {t:Value} {bf:Nat} (g:w0.heap[bf]? =some (.cells #[.string ⟨nm.toArray⟩,t] 127 (0,0))) (vq:M bf):
  Spec Tryz.prog 152 #[v0,.func (.func 153) #[] #[.pointer (some ⟨bf,0,none⟩)]] w0 (fun v w=>v= .bool (fs.any fun g=>decide (g.1=nm))∧Step M w0 M w aC):=by
 refine aX (args:=[_,_]) (fn:=Tryz.f152) Tryz.func152 rfl (n:=9) Tryz.ntmps152 ?_;have S:Step M w0 M w0 aC:=(an _ _).cc (fun _ h=>h.elim) (fun _ h=>h.elim);refine aj (ah (ai rfl rfl (ad (aj (ah (ae rfl rfl (ae rfl rfl ?_)))))));refine aP rfl rfl T6 (AB _ hM hv g vq) (fun r1 w1 hc=>?_);obtain⟨⟨k,rfl,hk,_⟩,s1⟩:=hc;have:=ak g;replace vq:=(s1.mem _ this).2 vq;replace g:=s1.aI g;replace hv:=hv.le s1.le;replace hM:=s1.lt hM;have:=S.size;replace S:=S.ay s1;refine dr rfl rfl rfl (ai rfl rfl (ad (aJ ?_)));exact aO rfl rfl ⟨congrArg Value.bool (by rw[Bool.eq_iff_iff,decide_eq_true_eq];exact hk),S⟩
theorem EW {M:aA} {d:Dc} {v0:Value} (w0:World) (hM:Lt M w0) (hv:RT.dc.V M w0 d v0) (hl:∀f∈d.2,f.1.length≤900000∧f.2.length≤900000):
  Spec Tryz.prog 107 #[v0] w0 (fun v w=>v= .int .i64 (kn d)∧Step M w0 M w aC):=by
 have jL:=hM;refine aX (args:=[_]) (fn:=Tryz.f107) Tryz.func107 rfl (n:=49) Tryz.ntmps107 ?_;have S:Step M w0 M w0 aC:=(an _ _).cc (fun _ h=>h.elim) (fun _ h=>h.elim);refine aj (ah ?_);refine Rg.kM (A:=RT.dc) rfl rfl hM hv rfl (fun u0 w1 cA s0 _=>?_);replace hM:=s0.lt hM;have:=S.size;replace S:=S.ay s0;refine ai rfl rfl (ad (aj (aj (ah ?_))));refine aH (M:=M) (A:=RT.dc) (B:=(RT.fd).sl) aN rfl rfl qe (by decide) (CU) rfl rfl (by decide) (by assumption) (by repeat (first|exact aq _ _|refine aT (aY (by assumption)) ?_)) (fun uk jw=>?_);refine cg (M:=M) aV rfl rfl rfl rfl rfl (by assumption) (by repeat (first|exact aq _ _|refine aT (aY (by assumption)) ?_)) (fun um kA=>?_);refine bU aV rfl kA rfl (nK rfl rfl rfl (ad ?_));refine bI rfl (fun c1=>?_) (fun c1=>?_)
 ·refine aj (ah (ai rfl rfl (ad (aJ ?_))));exact aO rfl rfl ⟨by rw[kn,if_pos (by omega)],S.back⟩
 ·refine aU (aj (ah (ai rfl rfl (ad (aj (aj (ah ?_)))))));refine aH (M:=M) (A:=RT.dc) (B:=(RT.fd).sl) aN rfl rfl qe (by decide) (CU) rfl rfl (by decide) (by assumption) (by repeat (first|exact aq _ _|refine aT (aY (by assumption)) ?_)) (fun Ln BZ=>?_);refine cg (M:=M) aV rfl rfl rfl rfl rfl (by assumption) (by repeat (first|exact aq _ _|refine aT (aY (by assumption)) ?_)) (fun Lo EX=>?_);refine bU aV rfl EX rfl (ae rfl rfl (ad (a8 ?_)));refine dC (σ:=Nat×Nat) (fun q=>[(1,u0),(3,.int .i64 (q.2:Int)),(13,Lo),(14,.int .i64 (d.2.length:Int)),(15,.int .i64 (q.1:Int))]) (fun q w=>∃M',Lt M' w∧Step M w0 M' w aC∧ch RT.dc M' w u0 d∧(RT.fd.sl).V M' w d.2 Lo∧kn d=ta (d.2.take q.1) (d.2.drop q.1) q.2∧q.1≤d.2.length∧q.2≤900001*q.1) (fun q=>d.2.length-q.1) (0,0) (.cons rfl (.cons rfl (.cons rfl (.cons rfl (.cons rfl .nil))))) ?_ ?_
  ·exact⟨M,hM,S,cA,EX,by rw[kn,if_neg (by omega)];rfl,bG _,bj _⟩
  ·rintro⟨i,n⟩ w ⟨M1,hM,S,cA,ma,AD,hi,hn⟩;dsimp only at AD hi hn ⊢;refine aj (ah (cf rfl rfl rfl (ad (aj ?_))));refine bI rfl (fun c5=>?_) (fun c5=>?_)
   ·refine aU (aj (a8 (aj (ah (ae rfl rfl ?_)))));refine dq (M:=M1) aV gZ rfl rfl rfl ma (aq _ _) (by omega) (fun u6 x DI Lb=>?_);refine cx (M:=M1) (A:=RT.fd) bT rfl gZ (by decide) rfl rfl rfl Lb (aq _ _) (fun v6 n0=>?_);rw[az]at DI;obtain rfl:=kN n0;have iz:=BY (n:=n) DI;have uP:=hl _ (aM DI);refine eW M1 gZ rfl (fun Lq Va acE acF mC EY=>?_);obtain⟨yI,EZ⟩:∃M',M'=ins M1 Lq:=⟨_,rfl⟩;rw[←EZ]at EY;have j8:yI Lq:=by rw[EZ];exact .inl rfl
    change Va.heap[Lq]? =some (.cells #[.string ⟨#[]⟩,.string ⟨#[]⟩] _ _)at mC;replace cA:=cA.le (by decide) EY.le;replace ma:=ma.le EY.le;replace hM:=EY.lt hM;have:=S.size;replace S:=S.ay EY;refine ai rfl rfl ?_;refine fa (M:=yI) (vs:=[.string ⟨x.1.toArray⟩,.string ⟨x.2.toArray⟩]) gZ rfl rfl (by intro u hu;simp at hu;rcases hu with rfl|rfl<;>rfl) rfl rfl mC j8 (fun w6 g6 s6=>?_);have:=ak mC;replace j8:=(s6.mem _ this).2 j8;replace cA:=cA.le (by decide) s6.le;replace ma:=ma.le s6.le;replace hM:=s6.lt hM;have:=S.size;replace S:=S.trans s6 (fun k hk h=>by have h:_=_:=h;subst h;first|(exfalso;omega)|(show _≤_;omega)|exact⟨by first|omega|assumption,(S.mem _ hk).1 ((s6.mem _ (ak mC)).1 j8)⟩|exact .inl rfl|exact .inr rfl|exact .inr (.inl rfl)|exact .inr (.inr rfl)|exact rfl);have JD:=g6;clear mC;have mC:=JD;clear JD;refine ad (aj (ah (aS (o':=1) bT rfl rfl I9 (by decide) rfl rfl (aE aD rfl rfl rfl (by assumption) rfl ?_))));refine aP rfl rfl TS (CT _ hM uP.2) (fun r7 w7 hc=>?_);obtain⟨⟨u7,rfl,hu7⟩,s7⟩:=hc;have:=ak mC;replace j8:=(s7.mem _ this).2 j8;replace mC:=s7.aI mC;replace cA:=cA.le (by decide) s7.le;replace ma:=ma.le s7.le;replace hM:=s7.lt hM;have:=S.size;replace S:=S.ay s7;refine ae rfl rfl (bP rfl rfl rfl (bP rfl rfl rfl (ai rfl rfl (ai rfl rfl (ad (aj (a8 (aj (ah (aS (o':=0) bT rfl rfl I9 (by decide) rfl rfl (aE aD rfl rfl rfl (by assumption) rfl ?_)))))))))));refine aP rfl rfl TT (CW x.1 (by omega) _) (fun r8 w8 hc=>?_);obtain⟨rfl,s8_⟩:=hc;have s8:=s8_ yI;have:=ak mC;replace j8:=(s8.mem _ this).2 j8;replace mC:=s8.aI mC;replace cA:=cA.le (by decide) s8.le;replace ma:=ma.le s8.le;replace hM:=s8.lt hM;have:=S.size;replace S:=S.ay s8
    refine Rg.not rfl rfl (bu (v':= .bool (decide (eM x.1=false))) (by cases eM x.1<;>rfl) (ai rfl rfl (ad ?_)));refine bI rfl (fun c8=>?_) (fun c8=>?_)
    ·refine aj (ah (ai rfl rfl (ad (aJ ?_))));exact aO rfl rfl ⟨by rw[AD,iz,if_pos (by assumption)],S.back⟩
    ·refine aj (ah ?_);refine aH (M:=yI) (A:=RT.dc) (B:=(RT.fd).sl) aN rfl rfl qe (by decide) (CU) rfl rfl (by decide) (by assumption) (by repeat (first|exact aq _ _|refine aT (aY (by assumption)) ?_)) (fun PB Lr=>?_);refine cg (M:=yI) aV rfl rfl rfl rfl rfl (by assumption) (by repeat (first|exact aq _ _|refine aT (aY (by assumption)) ?_)) (fun PC E0=>?_);refine ae rfl rfl ?_;refine Rg.BH aV gZ rfl rfl rfl E0 (by omega) (fun Sq PD=>?_);rw[az]at PD;refine hY (xs:=[]) (ys:=[.tmp 5]) rfl rfl rfl ?_;refine aP rfl rfl TU (yH _ hM PD mC j8) (fun Zl NM hc=>?_);obtain⟨rfl,pq⟩:=hc;have:=ak mC;replace j8:=(pq.mem _ this).2 j8;replace mC:=pq.aI mC;replace cA:=cA.le (by decide) pq.le;replace ma:=ma.le pq.le;replace hM:=pq.lt hM;have:=S.size;replace S:=S.ay pq;refine ai rfl rfl (bu (v':= .bool (decide (((d.2.take i).any fun g=>decide (g.1=x.1))=true))) (by cases((d.2.take i).any fun g=>decide (g.1=x.1))<;>rfl) (ad ?_));refine bI rfl (fun UE=>?_) (fun UE=>?_)
     ·refine aj (ah (ai rfl rfl (ad (aJ ?_))));exact aO rfl rfl ⟨by rw[AD,iz,if_neg (by assumption),if_pos (by assumption)],S.back⟩
     ·refine aj (ah (ae rfl rfl (eV rfl rfl rfl (ai rfl rfl (ad ?_)))));refine bI rfl (fun Pd=>?_) (fun Pd=>?_)
      ·refine aj (ah (ae rfl rfl (ai rfl rfl (ad (aJ ?_)))));exact aO rfl rfl ⟨by rw[AD,iz,if_neg (by assumption),if_neg (by assumption),if_pos (by assumption)];rfl,S.back⟩
      ·refine aU (ah (ae rfl rfl ?_));have H5:j7 0 (words x.2)=0:=Classical.not_not.1 Pd;obtain⟨a,cap,rfl⟩:=hu7 H5;have Zm:=nG x.2;refine ae rfl rfl (Rg.qc Tryz.underlying222 rfl rfl (bA rfl rfl rfl (by omega) (ai rfl rfl (ad (ah (bA rfl rfl rfl (by omega) (ae rfl rfl (ad ?_))))))));refine⟨rfl,(i+1,n+(words x.2).length),(.cons rfl (.cons rfl (.cons rfl (.cons rfl (.cons rfl .nil))))),?_,?_⟩
       ·exact⟨_,hM,S,cA,ma,by rw[AD,iz,if_neg (by assumption),if_neg (by assumption),if_neg Pd],by dsimp only;omega,by dsimp only;omega⟩
       ·dsimp only;omega
   ·refine cM (aj (aj (ah (ae rfl rfl (nK rfl rfl rfl (ad ?_))))));refine bI rfl (fun NN=>?_) (fun NN=>?_)
    ·refine aj (ah (ai rfl rfl (ad (aJ ?_))));exact aO rfl rfl ⟨by rw[AD,ph (by omega),if_pos (by omega)],S.back⟩
    ·refine aU (aj (ah (ai rfl rfl (ad (aJ ?_)))));exact aO rfl rfl ⟨by rw[AD,ph (by omega),if_neg (by omega)],S.back⟩
end Go.K
